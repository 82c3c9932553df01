/- asm: own texts, merged (wip/merge3.py). No condition. -/
import Derived.Test.YtclpkipaehpkdaaGreatDoorQ13AsmLifts
set_option linter.unusedVariables false
set_option linter.unusedSimpArgs false
set_option maxRecDepth 100000
set_option maxHeartbeats 64000000
namespace Go.Proofs.YtclpkipaehpkdaaGreatDoor
section
open Go.ChangeShapes Go.WideShapes Go.ChangeAt Go.RowKit
structure KP.Fit(p:KP):Prop where
 ln:p.ln≤1000000000
 sn:p.sn≤1000000000
structure KM.Fit(m:KM):Prop where
 fl:A4x m.fl
 cn:m.cn≤maxLen
 tn:m.tn≤1000000000000
 mn:m.mn≤1000000000000
 each:∀p∈m.maps,p.Fit
structure KF.Fit(f:KF):Prop where
 pn:f.pn≤65536
 ps:∀i:Nat,i<f.pn→(kAt f.pool i).s.length≤65536
 fn:f.fn≤1000000000000
 mn:f.mn≤1000000000000
 fl:∀d∈f.fields,A4x d.fl
 each:∀m∈f.methods,m.Fit
def B2d(f:KF)(w:World)(e:Ending)(w':World):Prop:=e= .returned (.int .i64 (if A2i f then 0 else 8))∧Below w.heap.size w w'
theorem C3t(f:KF)(hp:A5a f.pool=true):(!A2i f)=(((((false|| !clsOk f.pool f.th)|| !(decide (f.su=0)||clsOk f.pool f.su))|| !decide (f.fields.length≤64∧f.methods.length≤64))|| !f.fields.all (fun d=>A3d f.pool d.fl d.nm d.ds))|| !f.methods.all (A2y f.pool)):=by
 have h:(!A2i f)=(false|| !A2i f):=by simp
 rw[h];unfold A2i;rw[hp,A2q,A2q,A2q,A2q,A2q];simp
theorem B6z(w:World)(f:KF)(h:f.Rd w)(hfit:f.Fit):
  Calls Tryz.prog 19 #[.agg #[.slice f.pa f.pn f.pc,.int .i64 f.th,.int .i64 f.su,.slice f.fa f.fn f.fc,.slice f.ma f.mn f.mc]] w (B2d f w):=by
 unfold B2d;have HCH:=Lib.hid (C3t f);have HCN:=Lib.hid (show A5a f.pool=false→A2i f=false from fun h=>by unfold A2i;rw[h];rfl)
 obtain⟨pa,pn,pc,pool,th,su,fa,fn,fc,fields,ma,mn,mc,methods⟩:=f;dsimp only at HCH HCN⊢;have HPK:=Lib.hid (show Ks w pa pn pool from h.pool);have hpn:pn≤65536:=hfit.pn
 have hfn:fn≤1000000000000:=hfit.fn;have hmn:mn≤1000000000000:=hfit.mn;have HPS:=Lib.hid (show ∀i:Nat,i<pn→(kAt pool i).s.length≤65536 from hfit.ps)
 have HFD:=Lib.hid (show Ss 3 KD.cells w fa fn fields from h.fields);have HMD:=Lib.hid (show Ss 8 KM.cells w ma mn methods from h.methods);have HE:=Lib.hid (show ∀m∈methods,m.Rd w from h.each)
 have HFL:=Lib.hid (show ∀d∈fields,A4x d.fl from hfit.fl);have HFM:=Lib.hid (show ∀m∈methods,m.Fit from hfit.each);have HFn:=Lib.hid (show fields.length=fn from h.fields.1)
 have HMn:=Lib.hid (show methods.length=mn from h.methods.1)
 have HSZ:=Lib.hid (show decide (fields.length≤64∧methods.length≤64)=(decide ((fn:Int)≤64)&&decide ((mn:Int)≤64))from by
  rw[HFn.out,HMn.out,←Bool.decide_and];exact decide_eq_decide.2 (by omega))
 generalize decide (fields.length≤64∧methods.length≤64)=szB at*;generalize A2i ⟨pa,pn,pc,pool,th,su,fa,fn,fc,fields,ma,mn,mc,methods⟩=R at*;clear h hfit
 obtain⟨r,hr⟩:∃r:Int,r=if R then 0 else 8:=⟨_,rfl⟩
 rw[←hr];have HRV:=Lib.hid hr;clear hr;have hal:Below w.heap.size w (w.alloc (.cells #[.slice pa pn pc,.int .i64 th,.int .i64 su,.slice fa fn fc,.slice ma mn mc] 26)):=A0e _ _
 have HB0:=Lib.hid (heap_alloc_last w (.cells #[.slice pa pn pc,.int .i64 th,.int .i64 su,.slice fa fn fc,.slice ma mn mc] 26))
 have HCP:=Lib.hid (D0u (w.alloc (.cells #[.slice pa pn pc,.int .i64 th,.int .i64 su,.slice fa fn fc,.slice ma mn mc] 26)) pa pn pc pool (HPK.out.below hal) hpn HPS.out);unfold C4p at HCP
 have HK0:=Lib.hid hal;clear hal;go_enter Tryz.func19,Tryz.ntmps19
 go_upto_region 1 with fail
 generalize w.alloc (.cells #[.slice pa pn pc,.int .i64 th,.int .i64 su,.slice fa fn fc,.slice ma mn mc] 26)=W0 at*;have c0:=A0a HB0.out 0 rfl;dsimp at c0
 cases hp:A5a pool
 ·have HN:=Lib.hid (HCN.out hp);rw[hp]at HCP;simp only[Bool.false_eq_true,if_false]at HCP;clear HCH hp
  go_wp2_with fail
  refine HCP.out.mono ?_;rintro e w1 ⟨rfl,hb1⟩;have HB1:=Lib.hid (HK0.out.trans (hb1.mono HK0.out.size));clear hb1
  go_wp2_with fail
  go_ret;exact⟨by rw[HRV.out,HN.out];rfl,HB1.out⟩
 have HCH:=Lib.hid (HCH.out hp);rw[hp]at HCP;simp only[if_true]at HCP;clear HCN hp
 go_wp2_with fail
 refine HCP.out.mono ?_;rintro e w1 ⟨rfl,hb1⟩;have HB1:=Lib.hid (A0c HB0.out hb1);have HK1:=Lib.hid (HK0.out.trans (hb1.mono HK0.out.size));clear hb1 HCP HB0 HK0 c0;have c0:=A0a HB1.out 0 rfl
 have c1:=A0a HB1.out 1 rfl;dsimp at c0 c1
 go_upto_region 4 with fail
 have hal:Below w1.heap.size w1 (w1.alloc (.cells #[.slice pa pn pc,.bool false] 106)):=A0e _ _
 have HL:=Lib.hid (show LkS (w1.alloc (.cells #[.slice pa pn pc,.bool false] 106)) w1.heap.size pa pn pc pool false from
  ⟨heap_alloc_last w1 _,(HPK.out.below (by exact HK1.out)).below hal,hpn,B1e.oldS (HPK.out.below (by exact HK1.out)) (Nat.le_refl _)⟩)
 have HB:=Lib.hid (A0c HB1.out hal);have hbg:w.heap.size≠w1.heap.size:=Nat.ne_of_lt (A0u HB1.out);have HWg:=Lib.hid (show w.heap.size≤w1.heap.size by exact HK1.out.size)
 have HW2:=Lib.hid (show Below w.heap.size w (w1.alloc (.cells #[.slice pa pn pc,.bool false] 106)) by exact HK1.out.trans (hal.mono HK1.out.size));clear hal c0 c1 HB1 HK1
 generalize w1.alloc (.cells #[.slice pa pn pc,.bool false] 106)=W2 at*;generalize w1.heap.size=g at*;have HK:=Lib.hid (A3k.refl g W2);have c1:=A0a HB.out 1 rfl;dsimp at c1
 go_wp2_with fail
 refine(B0g W2 g pa pn pc pool false th HL.out).mono ?_;rintro e w3 ⟨rfl,h3,k3⟩;have HL3:=Lib.hid h3;have HB3:=Lib.hid (k3.blk HB.out hbg);have HK3:=Lib.hid (HK.out.trans k3)
 generalize(false|| !clsOk pool th)=od1 at*;clear h3 k3 c1 HL HB HK;have c2:=A0a HB3.out 2 rfl;dsimp at c2
 go_upto_if 22 with fail
 go_cut [] (fun wx=>Hid (LkS wx g pa pn pc pool (od1|| !(decide (su=0)||clsOk pool su)))∧Hid (wx.heap[w.heap.size]? =some (.cells #[.slice pa pn pc,.int .i64 th,.int .i64 su,.slice fa fn fc,.slice ma mn mc] 26))∧Hid (A3k g W2 wx))
 case first=>
  by_cases h0:su=0
  ·have e0:(su !=0)=false:=by simp[h0]
   have HS:=Lib.hid (show(decide (su=0)||clsOk pool su)=true by simp[h0]);clear h0
   go_wp2_with fail
   go_meet;exact⟨Lib.hid (by rw[HS.out,Bool.not_true,Bool.or_false];exact HL3.out),HB3,HK3⟩
  ·have e0:(su !=0)=true:=by simp[h0]
   have HS:=Lib.hid (show(decide (su=0)||clsOk pool su)=clsOk pool su by simp[h0]);clear h0
   go_wp2_with fail
   refine(B0g w3 g pa pn pc pool _ su HL3.out).mono ?_;rintro e w4 ⟨rfl,h4,k4⟩
   go_wp2_with fail
   go_meet;exact⟨Lib.hid (by rw[HS.out];exact h4),Lib.hid (k4.blk HB3.out hbg),Lib.hid (HK3.out.trans k4)⟩
 case rest=>
  clear c2 HL3 HB3 HK3;obtain⟨HL,HB,HK⟩:=hcut;generalize(od1|| !(decide (su=0)||clsOk pool su))=od2 at*;have c3:=A0a HB.out 3 rfl;have c4:=A0a HB.out 4 rfl;dsimp at c3 c4
  go_upto_region 7 with fail
  go_cut [38] (fun r wx=>Hid (LkS wx g pa pn pc pool (od2|| !szB))∧Hid (wx.heap[w.heap.size]? =some (.cells #[.slice pa pn pc,.int .i64 th,.int .i64 su,.slice fa fn fc,.slice ma mn mc] 26))∧Hid (A3k g W2 wx))
  case first=>
   by_cases h0:(fn:Int)≤64
   ·have e0:=decide_eq_true h0;by_cases h1:(mn:Int)≤64
    ·have e1:=decide_eq_true h1;clear h0 h1
     go_wp2_with fail
     refine(A2c _ g pa pn pc pool _ true HL.out).mono ?_;rintro e w3 ⟨rfl,h3,k3⟩
     go_wp2_with fail
     go_meet;refine⟨Lib.hid ?_,Lib.hid (k3.blk HB.out hbg),Lib.hid (HK.out.trans k3)⟩
     rw[show szB=true by rw[HSZ.out];simp only[e0,e1,Bool.and_true,Bool.true_and,Bool.false_and,Bool.and_false]];exact h3
    ·have e1:=decide_eq_false h1;clear h0 h1
     go_wp2_with fail
     refine(A2c _ g pa pn pc pool _ false HL.out).mono ?_;rintro e w3 ⟨rfl,h3,k3⟩
     go_wp2_with fail
     go_meet;refine⟨Lib.hid ?_,Lib.hid (k3.blk HB.out hbg),Lib.hid (HK.out.trans k3)⟩
     rw[show szB=false by rw[HSZ.out];simp only[e0,e1,Bool.and_true,Bool.true_and,Bool.false_and,Bool.and_false]];exact h3
   ·have e0:=decide_eq_false h0;clear h0
    go_wp2_with fail
    refine(A2c _ g pa pn pc pool _ false HL.out).mono ?_;rintro e w3 ⟨rfl,h3,k3⟩
    go_wp2_with fail
    go_meet;refine⟨Lib.hid ?_,Lib.hid (k3.blk HB.out hbg),Lib.hid (HK.out.trans k3)⟩
    rw[show szB=false by rw[HSZ.out];simp only[e0,Bool.and_true,Bool.true_and,Bool.false_and,Bool.and_false]];exact h3
  case rest=>
   clear c3 c4 HL HB HK;obtain⟨HL,HB,HK⟩:=hcut;generalize(od2|| !szB)=od3 at*;have c3:=A0a HB.out 3 rfl;dsimp at c3
   go_wp2_with fail
   clear c3
   go_loopg [42] fn (fun gn iv wr=>∃j:Nat,j≤fn∧gn=fn-j∧iv= .int .i64 j∧Hid (LkS wr g pa pn pc pool (od3|| !(fields.take j).all (fun d=>A3d pool d.fl d.nm d.ds)))∧Hid (wr.heap[w.heap.size]? =some (.cells #[.slice pa pn pc,.int .i64 th,.int .i64 su,.slice fa fn fc,.slice ma mn mc] 26))∧Hid (A3k g W2 wr))
   case atStart=>exact⟨0,by omega,by omega,by go_num,Lib.hid (by simpa using HL.out),HB,HK⟩
   case round=>
    clear HL HB HK;obtain⟨j,hj,rfl,rfl,HL,HB,HK⟩:=hrel;by_cases hlt:j<fn
    ·obtain⟨b,off,d,rfl,_,hv,q⟩:=(HFD.out.below (HK.out.below HW2.out (Nat.le_refl _) HWg.out)).getC j hlt
     have HA:=Lib.hid (show(od3|| !(fields.take (j+1)).all (fun d=>A3d pool d.fl d.nm d.ds))=((od3|| !(fields.take j).all (fun d=>A3d pool d.fl d.nm d.ds))|| !A3d pool d.fl d.nm d.ds) by rw[A5g _ _ _ _ hv,A2q])
     have HFI:=Lib.hid (HFL.out d (List.mem_of_getElem? hv));obtain⟨fl,nm,ds⟩:=d;dsimp only at HA HFI;have q0:wr.cell? ⟨b,off+j*3,none⟩=some (.int .i64 fl):=q 0 (by omega)
     have q1:wr.cell? ⟨b,off+j*3+1,none⟩=some (.int .i64 nm):=q 1 (by omega);have q2:wr.cell? ⟨b,off+j*3+2,none⟩=some (.int .i64 ds):=q 2 (by omega);clear q hv
     generalize(od3|| !(fields.take j).all (fun d=>A3d pool d.fl d.nm d.ds))=od at*;have hj1:(j:Int)<fn:=by omega
     have hb:Below wr.heap.size wr (wr.alloc (.cells #[.int .i64 fl,.int .i64 nm,.int .i64 ds] 75)):=A0e _ _;have HL4:=Lib.hid (HL.out.below hb);have HB4:=Lib.hid (A0c HB.out hb)
     have HK4:=Lib.hid (HK.out.trans (A3k.of hb));have HT4:=Lib.hid (heap_alloc_last wr (.cells #[.int .i64 fl,.int .i64 nm,.int .i64 ds] 75));clear hb HL HB HK
     go_upto_region 11 with fail
     clear q0 q1 q2;generalize wr.alloc (.cells #[.int .i64 fl,.int .i64 nm,.int .i64 ds] 75)=W4 at*;generalize wr.heap.size=bt at*;have p0:=A0a HT4.out 0 rfl
     have p1:=A0a HT4.out 1 rfl;have p2:=A0a HT4.out 2 rfl;dsimp at p0 p1 p2
     go_wp2_with fail
     refine(B4r W4 g pa pn pc pool _ fl nm ds HL4.out HFI.out).mono ?_;rintro e w6 ⟨rfl,h6,k6⟩
     go_wp2_with fail
     go_roundg (fn-(j+1))
     case measure=>omega
     case rel=>exact⟨j+1,by omega,rfl,by go_num,Lib.hid (by rw[HA.out];exact h6),Lib.hid (k6.blk HB4.out hbg),Lib.hid (HK4.out.trans k6)⟩
    ·obtain rfl:j=fn:=by omega
     have HEX:=Lib.hid (show fields.take j=fields by rw[List.take_of_length_le (by rw[HFn.out];exact Nat.le_refl _)]);rw[HEX.out]at HL
     generalize(od3|| !fields.all (fun d=>A3d pool d.fl d.nm d.ds))=od4 at*;have c4:=A0a HB.out 4 rfl;dsimp at c4
     go_wp2_with fail
     clear c4
     go_loopg [58] mn (fun gn iv wr=>∃i:Nat,i≤mn∧gn=mn-i∧iv= .int .i64 i∧Hid (LkS wr g pa pn pc pool (od4|| !(methods.take i).all (A2y pool)))∧Hid (A3k g W2 wr))
     case atStart=>exact⟨0,by omega,by omega,by go_num,Lib.hid (by simpa using HL.out),HK⟩
     case round=>
      clear HL HB HK;obtain⟨i,hi,rfl,rfl,HL,HK⟩:=hrel;by_cases hli:i<mn
      ·have HWR:=Lib.hid (HK.out.below HW2.out (Nat.le_refl _) HWg.out);obtain⟨b,off,m,rfl,_,hv,q⟩:=(HMD.out.below HWR.out).getC i hli
       have HA:=Lib.hid (show(od4|| !(methods.take (i+1)).all (A2y pool))=((od4|| !(methods.take i).all (A2y pool))|| !A2y pool m) by rw[A5g _ _ _ _ hv,A2q])
       have hR:=HE.out m (List.mem_of_getElem? hv);have hF:=HFM.out m (List.mem_of_getElem? hv)
       have HCM:=Lib.hid (fun(W:World) od (h1:LkS W g pa pn pc pool od) (h2:Below w.heap.size w W)=>C2v w W g pa pn pc pool od m h1 hR h2 HWg.out hF.fl hF.cn hF.tn hF.mn (fun p hp=>⟨(hF.each p hp).ln,(hF.each p hp).sn⟩))
       clear hR hF;obtain⟨fl,nm,ds,st,lo,ca,cn,cc,code,ta,tn,tc,traps,na,nn,nc,maps⟩:=m;dsimp only at HCM
       generalize A2y pool ⟨fl,nm,ds,st,lo,ca,cn,cc,code,ta,tn,tc,traps,na,nn,nc,maps⟩=ok at*;have q0:wr.cell? ⟨b,off+i*8,none⟩=some (.int .i64 fl):=q 0 (by omega)
       have q1:wr.cell? ⟨b,off+i*8+1,none⟩=some (.int .i64 nm):=q 1 (by omega);have q2:wr.cell? ⟨b,off+i*8+2,none⟩=some (.int .i64 ds):=q 2 (by omega)
       have q3:wr.cell? ⟨b,off+i*8+3,none⟩=some (.int .i64 st):=q 3 (by omega);have q4:wr.cell? ⟨b,off+i*8+4,none⟩=some (.int .i64 lo):=q 4 (by omega)
       have q5:wr.cell? ⟨b,off+i*8+5,none⟩=some (.slice ca cn cc):=q 5 (by omega);have q6:wr.cell? ⟨b,off+i*8+6,none⟩=some (.slice ta tn tc):=q 6 (by omega)
       have q7:wr.cell? ⟨b,off+i*8+7,none⟩=some (.slice na nn nc):=q 7 (by omega);clear q hv;generalize(od4|| !(methods.take i).all (A2y pool))=od at*
       have hi1:(i:Int)<mn:=by omega
       have hb:Below wr.heap.size wr (wr.alloc (.cells #[.int .i64 fl,.int .i64 nm,.int .i64 ds,.int .i64 st,.int .i64 lo,.slice ca cn cc,.slice ta tn tc,.slice na nn nc] 65)):=A0e _ _
       have HL4:=Lib.hid (HL.out.below hb);have HK4:=Lib.hid (HK.out.trans (A3k.of hb))
       have HT4:=Lib.hid (heap_alloc_last wr (.cells #[.int .i64 fl,.int .i64 nm,.int .i64 ds,.int .i64 st,.int .i64 lo,.slice ca cn cc,.slice ta tn tc,.slice na nn nc] 65))
       have HW4:=Lib.hid (HWR.out.trans (hb.mono HWR.out.size));clear hb HL HK HWR
       go_upto_region 16 with fail
       clear q0 q1 q2 q3 q4 q5 q6 q7
       generalize wr.alloc (.cells #[.int .i64 fl,.int .i64 nm,.int .i64 ds,.int .i64 st,.int .i64 lo,.slice ca cn cc,.slice ta tn tc,.slice na nn nc] 65)=W4 at*
       generalize wr.heap.size=bt at*;have p0:=A0a HT4.out 0 rfl;have p1:=A0a HT4.out 1 rfl;have p2:=A0a HT4.out 2 rfl;have p3:=A0a HT4.out 3 rfl
       have p4:=A0a HT4.out 4 rfl;have p5:=A0a HT4.out 5 rfl;have p6:=A0a HT4.out 6 rfl;have p7:=A0a HT4.out 7 rfl;dsimp at p0 p1 p2 p3 p4 p5 p6 p7
       go_wp2_with fail
       refine(HCM.out W4 _ HL4.out HW4.out).mono ?_;rintro e w6 ⟨rfl,h6,k6⟩
       go_wp2_with fail
       go_roundg (mn-(i+1))
       case measure=>omega
       case rel=>exact⟨i+1,by omega,rfl,by go_num,Lib.hid (by rw[HA.out];exact h6),Lib.hid (HK4.out.trans k6)⟩
      ·obtain rfl:i=mn:=by omega
       have HEY:=Lib.hid (show methods.take i=methods by rw[List.take_of_length_le (by rw[HMn.out];exact Nat.le_refl _)]);rw[HEY.out]at HL
       generalize(od4|| !methods.all (A2y pool))=od5 at*;have HBZ:=Lib.hid (HK.out.below HW2.out (Nat.le_refl _) HWg.out);obtain⟨k0,k1,fr0,fr1,lt0⟩:=HL.out.k.box
       cases od5
       ·have HRZ:=Lib.hid (show r=0 by have h1:=HCH.out;rw[HRV.out];cases R<;>simp at h1⊢)
        go_wp2_with fail
        go_ret;exact⟨by rw[HRZ.out];rfl,HBZ.out⟩
       ·have HRZ:=Lib.hid (show r=8 by have h1:=HCH.out;rw[HRV.out];cases R<;>simp at h1⊢)
        go_wp2_with fail
        go_ret;exact⟨by rw[HRZ.out];rfl,HBZ.out⟩
def EqW(x y:World):Prop:=y=x
def KF.vals(x:KF):Array Value:= #[.slice x.pa x.pn x.pc,.int .i64 x.th,.int .i64 x.su,.slice x.fa x.fn x.fc,.slice x.ma x.mn x.mc]
def C7x(P:Prop)(w:World)(e:Ending)(w':World):Prop:=∃b:Bool,e= .returned (.bool b)∧Below w.heap.size w w'∧(b=true→P)
theorem C7x.no{P:Prop}{w w':World}{e:Ending}(h:e= .returned (.bool false))(hb:Below w.heap.size w w'):C7x P w e w':=⟨false,h,hb,fun h=>by simp at h⟩
theorem C7x.yes{P:Prop}{w w':World}{e:Ending}(h:e= .returned (.bool true))(hb:Below w.heap.size w w')(hp:P):C7x P w e w':=⟨true,h,hb,fun _=>hp⟩
theorem B2z{α:Type}{l:List α}{j:Nat}{v:α}(h:l[j]? =some v):l.take (j+1)=l.take j++[v]:=by
 obtain⟨hj,he⟩:=List.getElem?_eq_some_iff.1 h;rw[List.take_succ_eq_append_getElem hj,he]
theorem D1v{α:Type}{p:α→Prop}{L:List α}{j:Nat}{v:α}(h:L[j]? =some v)(h1:∀t∈L.take j,p t)(h2:p v):∀t∈L.take (j+1),p t:=by
 rw[B2z h];intro t ht
 rcases List.mem_append.1 ht with h3|h3
 ·exact h1 t h3
 ·rw[List.mem_singleton.1 h3];exact h2
structure KF.Big(f:KF):Prop where
 pn:f.pn≤140737488355328
 fn:f.fn≤140737488355328
 mn:f.mn≤140737488355328
 ps:∀c∈f.pool,c.s.length≤140737488355328
 each:∀m∈f.methods,m.cn≤140737488355328∧m.tn≤140737488355328∧m.mn≤140737488355328∧∀p∈m.maps,p.ln≤140737488355328∧p.sn≤140737488355328
def D7i(p:KP):Nat:=10+p.ln+p.sn
def A7i(l:List KP):Nat:=(l.map D7i).sum
def D8s(m:KM):Nat:=m.cn+10*m.tn+A7i m.maps
def B0s(l:List KM):Nat:=(l.map D8s).sum
theorem C3b(l:List KP)(p:KP):A7i (l++[p])=A7i l+(10+p.ln+p.sn):=by unfold A7i;simp[D7i]
theorem C1w(l:List KM)(m:KM):B0s (l++[m])=B0s l+(m.cn+10*m.tn+A7i m.maps):=by unfold B0s;simp[D8s]
def E0v(f:KF):Prop:=f.pn≤120∧f.fn≤70∧f.mn≤70∧(∀c∈f.pool,c.s.length≤300)∧B0s f.methods≤4000
theorem D3p(w:World)(f:KF)(h:f.Rd w)(hb:f.Big):
  Calls Tryz.prog 9 #[.agg f.vals] w (C7x (E0v f) w):=by
 obtain⟨P,hP⟩:∃P,P=E0v f:=⟨_,rfl⟩;rw[←hP];have HX:=Lib.hid h;have HBG:=Lib.hid hb;have hpn:=hb.pn;have hfn:=hb.fn;have hmn:=hb.mn;have HLP:=Lib.hid h.pool.1
 have HLM:=Lib.hid h.methods.1;have HP:=Lib.hid (show P=(f.pn≤120∧f.fn≤70∧f.mn≤70∧(∀c∈f.pool,c.s.length≤300)∧B0s f.methods≤4000)from hP);clear h hb hP
 obtain⟨pa,pn,pc,pool,th,su,fa,fn,fc,fields,ma,mn,mc,methods⟩:=f;unfold KF.vals;dsimp only at*
 have hal:Below w.heap.size w (w.alloc (.cells #[.slice pa pn pc,.int .i64 th,.int .i64 su,.slice fa fn fc,.slice ma mn mc] 26)):=A0e _ _
 have HI0:=Lib.hid (heap_alloc_last w (.cells #[.slice pa pn pc,.int .i64 th,.int .i64 su,.slice fa fn fc,.slice ma mn mc] 26));have HB0:=Lib.hid hal;clear hal;go_enter Tryz.func9,Tryz.ntmps9
 go_upto_region 1 with fail
 generalize w.alloc (.cells #[.slice pa pn pc,.int .i64 th,.int .i64 su,.slice fa fn fc,.slice ma mn mc] 26)=W0 at*;have c0:=A0a HI0.out 0 rfl;have c3:=A0a HI0.out 3 rfl
 have c4:=A0a HI0.out 4 rfl;by_cases h1:120<pn
 ·have ed:decide ((120:Int)<pn)=true:=by simp;omega
  go_wp2_with fail
  go_ret;exact C7x.no rfl HB0.out
 have ed:decide ((120:Int)<pn)=false:=by simp;omega
 by_cases h2:70<fn
 ·have ed2:decide ((70:Int)<fn)=true:=by simp;omega
  go_wp2_with fail
  go_ret;exact C7x.no rfl HB0.out
 have ed2:decide ((70:Int)<fn)=false:=by simp;omega
 by_cases h3:70<mn
 ·have ed3:decide ((70:Int)<mn)=true:=by simp;omega
  go_wp2_with fail
  go_ret;exact C7x.no rfl HB0.out
 have ed3:decide ((70:Int)<mn)=false:=by simp;omega
 go_wp2_with fail
 clear ed ed2 ed3 c0 c3 c4
 go_loopg [29] pn (fun gn i wr=>∃j:Nat,j≤pn∧gn=pn-j∧i= .int .i64 j∧Hid (∀c∈pool.take j,c.s.length≤300)∧Hid (Below W0.heap.size W0 wr))
 case atStart=>exact⟨0,by omega,by omega,by go_num,Lib.hid (by simp),Lib.hid (Below.refl _ _)⟩
 case round=>
  obtain⟨j,hj,rfl,rfl,HA,HB⟩:=hrel;by_cases hlt:j<pn
  ·have HWB:=Lib.hid (HB0.out.trans (HB.out.mono HB0.out.size));obtain⟨b,off,c,rfl,hbl,hv,q⟩:=Ss.getC (HX.out.pool.below HWB.out) j hlt
   have HSN:=Lib.hid (fun(h:c.s.length≤300)=>D1v (p:=fun c:KV=>c.s.length≤300) hv HA.out h);obtain⟨ct,ca,cb,cn,cs⟩:=c;dsimp only at HSN
   have q0:wr.cell? ⟨b,off+j*5,none⟩=some (.int .i64 ct):=q 0 (by omega);have q1:wr.cell? ⟨b,off+j*5+1,none⟩=some (.int .i64 ca):=q 1 (by omega)
   have q2:wr.cell? ⟨b,off+j*5+2,none⟩=some (.int .i64 cb):=q 2 (by omega);have q3:wr.cell? ⟨b,off+j*5+3,none⟩=some (.int .i64 cn):=q 3 (by omega)
   have q4:wr.cell? ⟨b,off+j*5+4,none⟩=some (.string ⟨cs.toArray⟩):=q 4 (by omega);clear q hv hbl
   have hal:Below wr.heap.size wr (wr.alloc (.cells #[.int .i64 ct,.int .i64 ca,.int .i64 cb,.int .i64 cn,.string ⟨cs.toArray⟩] 61)):=A0e _ _
   have HT:=Lib.hid (heap_alloc_last wr (.cells #[.int .i64 ct,.int .i64 ca,.int .i64 cb,.int .i64 cn,.string ⟨cs.toArray⟩] 61));have HB2:=Lib.hid (HB.out.trans (hal.mono HB.out.size))
   have HB3:=Lib.hid (HWB.out.trans (hal.mono HWB.out.size))
   go_upto_region 6 with fail
   clear q0 q1 q2 q3 q4 hal HB HWB;generalize wr.alloc (.cells #[.int .i64 ct,.int .i64 ca,.int .i64 cb,.int .i64 cn,.string ⟨cs.toArray⟩] 61)=W1 at*;generalize wr.heap.size=bt at*
   have k4:=A0a HT.out 4 rfl;by_cases h6:300<cs.length
   ·have eh:decide ((300:Int)<cs.length)=true:=by simp;omega
    go_wp2_with fail
    go_ret;exact C7x.no rfl HB3.out
   ·have eh:decide ((300:Int)<cs.length)=false:=by simp;omega
    go_wp2_with fail
    go_roundg (pn-(j+1))
    case measure=>omega
    case rel=>exact⟨j+1,by omega,rfl,by go_num,Lib.hid (HSN.out (by omega)),HB2⟩
  ·obtain rfl:pn=j:=by omega
   have HPL:=Lib.hid (show ∀c∈pool,c.s.length≤300 by have h:=HA.out;rwa [List.take_of_length_le (by rw[HLP.out];exact Nat.le_refl _)]at h);have HI1:=Lib.hid (A0c HI0.out HB.out)
   have HB1:=Lib.hid (HB0.out.trans (HB.out.mono HB0.out.size));clear HA HB HI0;have c4:=A0a HI1.out 4 rfl
   go_wp2_with fail
   clear c4
   go_loopg [41,5] mn (fun gn i v wr=>∃(j:Nat) (T:Int),j≤mn∧gn=mn-j∧i= .int .i64 j∧v= .int .i64 T∧0≤T∧T≤4000∧Hid (T=4000-(B0s (methods.take j):Nat))∧Hid (Below w.heap.size w wr))
   case atStart=>exact⟨0,4000,by omega,by omega,by go_num,rfl,by omega,by omega,Lib.hid (by simp[B0s]),HB1⟩
   case round=>
    obtain⟨j,T,hj,rfl,rfl,rfl,hT1,hT2,HT,HB⟩:=hrel;by_cases hlt:j<mn
    ·obtain⟨b,off,m,rfl,hbl,hv,q⟩:=Ss.getC (HX.out.methods.below HB.out) j hlt;have HMR:=Lib.hid (HX.out.each m (List.mem_of_getElem? hv));have hfm:=HBG.out.each m (List.mem_of_getElem? hv)
     have HST:=Lib.hid (show B0s (methods.take (j+1))=B0s (methods.take j)+(m.cn+10*m.tn+A7i m.maps) by rw[B2z hv,C1w])
     obtain⟨fl,nm,ds,st,lo,ca,cn,cc,code,ta,tn,tc,traps,na,nn,nc,maps⟩:=m;dsimp only at HST hfm;obtain⟨hf1,hf2,hf3,hf4⟩:=hfm;have HF4:=Lib.hid hf4
     have HML:=Lib.hid (show maps.length=nn from HMR.out.maps.1);have q0:wr.cell? ⟨b,off+j*8,none⟩=some (.int .i64 fl):=q 0 (by omega)
     have q1:wr.cell? ⟨b,off+j*8+1,none⟩=some (.int .i64 nm):=q 1 (by omega);have q2:wr.cell? ⟨b,off+j*8+2,none⟩=some (.int .i64 ds):=q 2 (by omega)
     have q3:wr.cell? ⟨b,off+j*8+3,none⟩=some (.int .i64 st):=q 3 (by omega);have q4:wr.cell? ⟨b,off+j*8+4,none⟩=some (.int .i64 lo):=q 4 (by omega)
     have q5:wr.cell? ⟨b,off+j*8+5,none⟩=some (.slice ca cn cc):=q 5 (by omega);have q6:wr.cell? ⟨b,off+j*8+6,none⟩=some (.slice ta tn tc):=q 6 (by omega)
     have q7:wr.cell? ⟨b,off+j*8+7,none⟩=some (.slice na nn nc):=q 7 (by omega);clear q hv hbl hf4
     have hal:Below wr.heap.size wr (wr.alloc (.cells #[.int .i64 fl,.int .i64 nm,.int .i64 ds,.int .i64 st,.int .i64 lo,.slice ca cn cc,.slice ta tn tc,.slice na nn nc] 65)):=A0e _ _
     have HM:=Lib.hid (heap_alloc_last wr (.cells #[.int .i64 fl,.int .i64 nm,.int .i64 ds,.int .i64 st,.int .i64 lo,.slice ca cn cc,.slice ta tn tc,.slice na nn nc] 65))
     have HB3:=Lib.hid (HB.out.trans (hal.mono HB.out.size))
     go_upto_region 13 with fail
     clear q0 q1 q2 q3 q4 q5 q6 q7 hal HB
     generalize wr.alloc (.cells #[.int .i64 fl,.int .i64 nm,.int .i64 ds,.int .i64 st,.int .i64 lo,.slice ca cn cc,.slice ta tn tc,.slice na nn nc] 65)=W3 at*;generalize wr.heap.size=bt at*
     have k5:=A0a HM.out 5 rfl;have k6:=A0a HM.out 6 rfl;have k7:=A0a HM.out 7 rfl;obtain⟨T2,hT⟩:∃T2:Int,T2=T-cn-10*tn:=⟨_,rfl⟩
     have et:T-(cn:Int) -10*(tn:Int)=T2:=hT.symm;have HT2:=Lib.hid hT;have hb2: -2251799813685248≤T2∧T2≤4000:=by omega
     obtain⟨hb2,hb3⟩:=hb2;clear hT
     go_wp2_with fail
     clear k5 k6 k7 et
     go_loopg [58,5] nn (fun gn i v wr=>∃(k:Nat) (U:Int),k≤nn∧gn=nn-k∧i= .int .i64 k∧v= .int .i64 U∧-2251799813685248≤U∧U≤4000∧Hid (U=T2-(A7i (maps.take k):Nat))∧Hid (Below w.heap.size w wr))
     case atStart=>exact⟨0,T2,by omega,by omega,by go_num,rfl,hb2,hb3,Lib.hid (by simp[A7i]),HB3⟩
     case round=>
      obtain⟨k,U,hk,rfl,rfl,rfl,hU1,hU2,HU,HBk⟩:=hrel;by_cases hlk:k<nn
      ·obtain⟨b2,off2,p,rfl,hbl,hv,q⟩:=Ss.getC (HMR.out.maps.below HBk.out) k hlk;have hfp:=HF4.out p (List.mem_of_getElem? hv)
       have HSP:=Lib.hid (show A7i (maps.take (k+1))=A7i (maps.take k)+(10+p.ln+p.sn) by rw[B2z hv,C3b]);obtain⟨pl,la,ln,lc,loc,sa,sn,sc,stk⟩:=p
       dsimp only at HSP hfp;obtain⟨hp1,hp2⟩:=hfp;have q0:wr.cell? ⟨b2,off2+k*3,none⟩=some (.int .i64 pl):=q 0 (by omega)
       have q1:wr.cell? ⟨b2,off2+k*3+1,none⟩=some (.slice la ln lc):=q 1 (by omega);have q2:wr.cell? ⟨b2,off2+k*3+2,none⟩=some (.slice sa sn sc):=q 2 (by omega)
       clear q hv hbl;have hal:Below wr.heap.size wr (wr.alloc (.cells #[.int .i64 pl,.slice la ln lc,.slice sa sn sc] 68)):=A0e _ _
       have HP2:=Lib.hid (heap_alloc_last wr (.cells #[.int .i64 pl,.slice la ln lc,.slice sa sn sc] 68));have HB4:=Lib.hid (HBk.out.trans (hal.mono HBk.out.size))
       go_upto_region 17 with fail
       clear q0 q1 q2 hal HBk;generalize wr.alloc (.cells #[.int .i64 pl,.slice la ln lc,.slice sa sn sc] 68)=W4 at*;generalize wr.heap.size=bp at*;have k1:=A0a HP2.out 1 rfl
       have k2:=A0a HP2.out 2 rfl;obtain⟨U2,hUU⟩:∃U2:Int,U2=U-10-ln-sn:=⟨_,rfl⟩;have eu:U-10-(ln:Int) -(sn:Int)=U2:=hUU.symm;have HU2:=Lib.hid hUU
       have hb4: -4503599627370496≤U2∧U2≤4000:=by omega
       obtain⟨hb4,hb5⟩:=hb4;clear hUU;by_cases hneg:U2<0
       ·have ed:decide (U2<0)=true:=by simpa using hneg
        go_wp2_with fail
        go_ret;exact C7x.no rfl HB4.out
       ·have ed:decide (U2<0)=false:=by simpa using hneg
        go_wp2_with fail
        go_roundg (nn-(k+1))
        case measure=>omega
        case rel=>exact⟨k+1,U2,by omega,rfl,by go_num,rfl,by omega,hb5,Lib.hid (by rw[HU2.out,HSP.out,HU.out];omega),HB4⟩
      ·obtain rfl:nn=k:=by omega
       have HEX:=Lib.hid (show maps.take nn=maps by rw[List.take_of_length_le (by rw[HML.out];exact Nat.le_refl _)]);rw[HEX.out]at HU;by_cases hneg:U<0
       ·have ed:decide (U<0)=true:=by simpa using hneg
        go_wp2_with fail
        go_ret;exact C7x.no rfl HBk.out
       ·have ed:decide (U<0)=false:=by simpa using hneg
        go_wp2_with fail
        go_roundg (mn-(j+1))
        case measure=>omega
        case rel=>exact⟨j+1,U,by omega,rfl,by go_num,rfl,by omega,hU2,Lib.hid (by rw[HU.out,HT2.out,HST.out,HT.out];omega),HBk⟩
    ·obtain rfl:mn=j:=by omega
     have HF:=Lib.hid (show P by
      rw[HP.out];refine⟨by omega,by omega,by omega,HPL.out,?_⟩;have h:=HT.out;rw[List.take_of_length_le (by rw[HLM.out];exact Nat.le_refl _)]at h;omega)
     go_wp2_with fail
     go_ret;exact C7x.yes rfl HB.out HF.out
theorem E0q{L:List KV}{j:Nat}{c:KV}(h:L[j]? =some c):kAt L (j:Int)=c:=by
 obtain⟨hj,he⟩:=List.getElem?_eq_some_iff.1 h;rw[A8q L j hj,he]
theorem D8g.done{w w':World}{k m:Nat}(h:k=m)(hb:Below w.heap.size w w'):(Ending.returned (.int .i64 (k:Nat))= .returned (.int .i64 (m:Nat)))∧Below w.heap.size w w':=⟨by rw[h],hb⟩
theorem B9k(w:World)(a:Option Addr)(n cap:Nat)(L:List KV)(s:List UInt8)(hs:Ks w a n L)(hn:n≤65536):
  Calls Tryz.prog 110 #[.slice a n cap,.string ⟨s.toArray⟩] w fun e w'=>e= .returned (.int .i64 (A6a L s))∧Below w.heap.size w w':=by
 obtain⟨F,hF⟩:∃F,F=A6a L s:=⟨_,rfl⟩;rw[←hF];have HF:=Lib.hid hF;have HS:=Lib.hid hs;have HLn:=Lib.hid hs.1;clear hs hF;go_enter Tryz.func110,Tryz.ntmps110
 go_wp2_with fail
 go_loopg [9] n (fun gn i wr=>∃j:Nat,j≤n∧gn=n-j∧i= .int .i64 j∧Hid (∀k,k<j→B3z s (kAt L k)=false)∧Hid (Below w.heap.size w wr))
 case atStart=>exact⟨0,by omega,by omega,by go_num,Lib.hid (fun k hk=>absurd hk (Nat.not_lt_zero k)),Lib.hid (Below.refl _ _)⟩
 case round=>
  obtain⟨j,hj,rfl,rfl,HA,HB⟩:=hrel;by_cases hlt:j<n
  ·obtain⟨b,off,c,rfl,hbl,hv,q⟩:=Ss.getC (HS.out.below HB.out) j hlt;have HK:=Lib.hid (E0q hv);have HJ:=Lib.hid (show j<L.length by rw[HLn.out];exact hlt);obtain⟨ct,ca,cb,cn,cs⟩:=c
   have q0:wr.cell? ⟨b,off+j*5,none⟩=some (.int .i64 ct):=q 0 (by omega);have q1:wr.cell? ⟨b,off+j*5+1,none⟩=some (.int .i64 ca):=q 1 (by omega)
   have q2:wr.cell? ⟨b,off+j*5+2,none⟩=some (.int .i64 cb):=q 2 (by omega);have q3:wr.cell? ⟨b,off+j*5+3,none⟩=some (.int .i64 cn):=q 3 (by omega)
   have q4:wr.cell? ⟨b,off+j*5+4,none⟩=some (.string ⟨cs.toArray⟩):=q 4 (by omega);clear q hv hbl
   have hal:Below wr.heap.size wr (wr.alloc (.cells #[.int .i64 ct,.int .i64 ca,.int .i64 cb,.int .i64 cn,.string ⟨cs.toArray⟩] 61)):=A0e _ _
   have HT:=Lib.hid (heap_alloc_last wr (.cells #[.int .i64 ct,.int .i64 ca,.int .i64 cb,.int .i64 cn,.string ⟨cs.toArray⟩] 61));have HB2:=Lib.hid (HB.out.trans (hal.mono HB.out.size))
   have hj1:(j:Int)<n:=by omega
   go_upto_region 4 with fail
   clear q0 q1 q2 q3 q4 hal HB;generalize wr.alloc (.cells #[.int .i64 ct,.int .i64 ca,.int .i64 cb,.int .i64 cn,.string ⟨cs.toArray⟩] 61)=W1 at*;generalize wr.heap.size=bt at*
   have k0:=A0a HT.out 0 rfl;have k4:=A0a HT.out 4 rfl;by_cases h1:ct=1
   ·have e1:(ct==1)=true:=by simp[h1]
    by_cases h2:cs=s
    ·have e2:(cs==s)=true:=by simp[h2]
     have HR:=Lib.hid (show j=F by rw[HF.out];exact(D4r j HJ.out HA.out (by rw[HK.out];unfold B3z;simp[h1,h2])).symm);clear h1 h2 HF HA
     go_wp2_with fail
     go_ret;exact D8g.done HR.out HB2.out
    ·have e2:(cs==s)=false:=by simp[h2]
     have HN:=Lib.hid (show B3z s (kAt L (j:Int))=false by rw[HK.out];unfold B3z;simp[h2]);clear h1 h2
     go_wp2_with fail
     go_roundg (n-(j+1))
     case measure=>omega
     case rel=>exact⟨j+1,by omega,rfl,by go_num,Lib.hid (fun k hk=>by
      by_cases hkj:k<j
      ·exact HA.out k hkj
      ·obtain rfl:k=j:=by omega
       exact HN.out),HB2⟩
   ·have e1:(ct==1)=false:=by simp[h1]
    have HN:=Lib.hid (show B3z s (kAt L (j:Int))=false by rw[HK.out];unfold B3z;simp[h1]);clear h1
    go_wp2_with fail
    go_roundg (n-(j+1))
    case measure=>omega
    case rel=>exact⟨j+1,by omega,rfl,by go_num,Lib.hid (fun k hk=>by
     by_cases hkj:k<j
     ·exact HA.out k hkj
     ·obtain rfl:k=j:=by omega
      exact HN.out),HB2⟩
  ·obtain rfl:n=j:=by omega
   have HR:=Lib.hid (show 0=F by rw[HF.out];exact(D4n (fun k hk=>HA.out k (by rw[←HLn.out];exact hk))).symm);clear HF HA
   go_wp2_with fail
   go_ret;exact D8g.done HR.out HB.out
theorem C0d(w:World)(a:Option Addr)(n cap:Nat)(L:List KV)(i:Int)(hs:Ks w a n L)(hn:n≤65536):
  Calls Tryz.prog 107 #[.slice a n cap,.int .i64 i] w (A0k (isT L i 1) w):=by
 have HC:=Lib.hid (A6y w a n cap L i hs hn);clear hs;go_enter Tryz.func107,Tryz.ntmps107
 go_wp2_with fail
 refine HC.out.mono ?_;rintro e w1 ⟨rfl,rfl⟩
 go_wp2_with fail
 go_ret;exact⟨rfl,Below.refl _ _⟩
theorem B0b(w:World)(a:Option Addr)(n cap:Nat)(L:List KV)(i:Int)(hs:Ks w a n L)(hn:n≤65536):
  Calls Tryz.prog 59 #[.slice a n cap,.int .i64 i] w (A0k (clsOk L i) w):=by
 have HC:=Lib.hid (A4p w a n cap L i hs hn);clear hs;go_enter Tryz.func59,Tryz.ntmps59
 go_wp2_with fail
 refine HC.out.mono ?_;rintro e w1 ⟨rfl,rfl⟩
 go_wp2_with fail
 go_ret;exact⟨rfl,Below.refl _ _⟩
theorem A4t{α:Type}{p:α→Bool}{l:List α}{x:α}{j:Nat}(h:l[j]? =some x)(hp:p x=false):l.all p=false:=by
 rw[List.all_eq_false];exact⟨x,List.mem_of_getElem? h,by rw[hp];decide⟩
theorem B0c{α:Type}{p:α→Bool}{l:List α}{j:Nat}(h:(l.take j).all p=true)(hl:l.length=j):l.all p=true:=by
 rwa [List.take_of_length_le (by omega)]at h
theorem A0k.of{r s:Bool}{w w':World}(h:s=r)(hb:Below w.heap.size w w'):A0k r w (.returned (.bool s)) w':=⟨by rw[h],hb⟩
theorem C0r(w:World)(a:Option Addr)(n cap:Nat)(l:List Int)(hs:Sl D9z w a n l)(hn:n≤1000):
  Calls Tryz.prog 108 #[.slice a n cap] w (A0k (l.all A3t) w):=by
 obtain⟨R,hR⟩:∃R,R=l.all A3t:=⟨_,rfl⟩;rw[←hR];have HR:=Lib.hid hR;have HS:=Lib.hid hs;have HLn:=Lib.hid hs.1;clear hs hR;go_enter Tryz.func108,Tryz.ntmps108
 go_wp2_with fail
 go_loopg [7] n (fun gn i wr=>∃j:Nat,j≤n∧gn=n-j∧i= .int .i64 j∧Hid ((l.take j).all A3t=true)∧wr=w)
 case atStart=>exact⟨0,by omega,by omega,by go_num,Lib.hid (by simp),rfl⟩
 case round=>
  obtain⟨j,hj,rfl,rfl,HA,rfl⟩:=hrel;by_cases hlt:j<n
  ·obtain⟨b,off,x,rfl,_,hv,q0⟩:=HS.out.getZ j hlt;have HV:=Lib.hid hv;have hj1:(j:Int)<n:=by omega
   clear hv;by_cases h1:x<0
   ·have e1:=decide_eq_true h1;have HF:=Lib.hid (show false=R by rw[HR.out];exact(A4t HV.out (by unfold A3t;simp;omega)).symm);clear h1
    go_wp2_with fail
    go_ret;exact A0k.of HF.out (Below.refl _ _)
   ·have e1:=decide_eq_false h1;by_cases h2:65535<x
    ·have e2:=decide_eq_true h2;have HF:=Lib.hid (show false=R by rw[HR.out];exact(A4t HV.out (by unfold A3t;simp;omega)).symm);clear h1 h2
     go_wp2_with fail
     go_ret;exact A0k.of HF.out (Below.refl _ _)
    ·have e2:=decide_eq_false h2;have HT:=Lib.hid (show(l.take (j+1)).all A3t=true by rw[A5g _ _ _ _ HV.out,HA.out];unfold A3t;simp;omega);clear h1 h2
     go_wp2_with fail
     go_roundg (n-(j+1))
     case measure=>omega
     case rel=>exact⟨j+1,by omega,rfl,by go_num,HT,rfl⟩
  ·obtain rfl:n=j:=by omega
   have HF:=Lib.hid (show true=R by rw[HR.out];exact(B0c HA.out HLn.out).symm)
   go_wp2_with fail
   go_ret;exact A0k.of HF.out (Below.refl _ _)
theorem B6i(w:World)(a:Option Addr)(n cap:Nat)(L:List KV)(za:Option Addr)(zn zc:Nat)(l:List KS)(most:Int)(hs:Ks w a n L)(hn:n≤65536)(hz:Ss 2 KS.cells w za zn l)(hzn:zn≤140737488355328):
  Calls Tryz.prog 109 #[.slice a n cap,.slice za zn zc,.int .i64 most] w (A0k (A4s L most l) w):=by
 obtain⟨R,hR⟩:∃R,R=A4s L most l:=⟨_,rfl⟩;rw[←hR];have HRN:=Lib.hid (show l.all (A4k L)=false→false=R from fun h=>by rw[hR];unfold A4s;rw[h,Bool.and_false])
 have HRY:=Lib.hid (show l.all (A4k L)=true→decide ((zn:Int)≤most)=R from fun h=>by rw[hR];unfold A4s;rw[h,Bool.and_true,hz.1]);have HS:=Lib.hid hs;have HZ:=Lib.hid hz
 have HLn:=Lib.hid hz.1;clear hs hR hz;go_enter Tryz.func109,Tryz.ntmps109
 go_wp2_with fail
 go_loopg [11] zn (fun gn i wr=>∃j:Nat,j≤zn∧gn=zn-j∧i= .int .i64 j∧Hid ((l.take j).all (A4k L)=true)∧Hid (Below w.heap.size w wr))
 case atStart=>exact⟨0,by omega,by omega,by go_num,Lib.hid (by simp),Lib.hid (Below.refl _ _)⟩
 case round=>
  obtain⟨j,hj,rfl,rfl,HA,HB⟩:=hrel;by_cases hlt:j<zn
  ·obtain⟨b,off,x,rfl,_,hv,q⟩:=Ss.getC (HZ.out.below HB.out) j hlt;have HN:=Lib.hid (fun(h:A4k L x=false)=>HRN.out (A4t hv h))
   have HY:=Lib.hid (fun(h:A4k L x=true)=>show(l.take (j+1)).all (A4k L)=true by rw[A5g _ _ _ _ hv,HA.out,h];rfl);obtain⟨tg,sa⟩:=x
   have q0:wr.cell? ⟨b,off+j*2,none⟩=some (.int .i64 tg):=q 0 (by omega);have q1:wr.cell? ⟨b,off+j*2+1,none⟩=some (.int .i64 sa):=q 1 (by omega);clear q hv
   have hal:Below wr.heap.size wr (wr.alloc (.cells #[.int .i64 tg,.int .i64 sa] 174)):=A0e _ _;have HT:=Lib.hid (heap_alloc_last wr (.cells #[.int .i64 tg,.int .i64 sa] 174))
   have HB2:=Lib.hid (HB.out.trans (hal.mono HB.out.size));have hj1:(j:Int)<zn:=by omega
   go_upto_region 4 with fail
   clear q0 q1 hal HB;generalize wr.alloc (.cells #[.int .i64 tg,.int .i64 sa] 174)=W1 at*;generalize wr.heap.size=bt at*;have k0:=A0a HT.out 0 rfl;have k1:=A0a HT.out 1 rfl
   have HC:=Lib.hid (B0b W1 a n cap L sa (HS.out.below HB2.out) hn);by_cases h7:tg=7
   ·subst h7;have HSO:=Lib.hid (show A4k L ⟨7,sa⟩=clsOk L sa from rfl);rw[HSO.out]at HN HY;generalize clsOk L sa=ok at*
    go_wp2_with fail
    refine HC.out.mono ?_;rintro e w2 ⟨rfl,hb⟩;have HB3:=Lib.hid (HB2.out.trans (hb.mono HB2.out.size));clear hb HC
    cases ok with
    |false=>
     have HF:=Lib.hid (HN.out rfl)
     go_wp2_with fail
     go_ret;exact A0k.of HF.out HB3.out
    |true=>
     have HF:=Lib.hid (HY.out rfl)
     go_wp2_with fail
     go_roundg (zn-(j+1))
     case measure=>omega
     case rel=>exact⟨j+1,by omega,rfl,by go_num,HF,HB3⟩
   ·by_cases ht:tg=0∨tg=1∨tg=4∨tg=5
    ·by_cases h0:sa=0
     ·subst h0;have HF:=Lib.hid (HY.out (by unfold A4k;simp[h7,ht]));clear HN HY HC h7
      rcases ht with rfl|rfl|rfl|rfl
      ·go_wp2_with fail
       go_roundg (zn-(j+1))
       case measure=>omega
       case rel=>exact⟨j+1,by omega,rfl,by go_num,HF,HB2⟩
      ·go_wp2_with fail
       go_roundg (zn-(j+1))
       case measure=>omega
       case rel=>exact⟨j+1,by omega,rfl,by go_num,HF,HB2⟩
      ·go_wp2_with fail
       go_roundg (zn-(j+1))
       case measure=>omega
       case rel=>exact⟨j+1,by omega,rfl,by go_num,HF,HB2⟩
      ·go_wp2_with fail
       go_roundg (zn-(j+1))
       case measure=>omega
       case rel=>exact⟨j+1,by omega,rfl,by go_num,HF,HB2⟩
     ·have e0:(sa !=0)=true:=by simp[h0]
      have HF:=Lib.hid (HN.out (by unfold A4k;simp[h7,h0]));clear HN HY HC h7 h0
      rcases ht with rfl|rfl|rfl|rfl
      ·go_wp2_with fail
       go_ret;exact A0k.of HF.out HB2.out
      ·go_wp2_with fail
       go_ret;exact A0k.of HF.out HB2.out
      ·go_wp2_with fail
       go_ret;exact A0k.of HF.out HB2.out
      ·go_wp2_with fail
       go_ret;exact A0k.of HF.out HB2.out
    ·have HF:=Lib.hid (HN.out (by unfold A4k;simp only[h7,ht,if_false,decide_false,Bool.false_and]));have e7:(tg==7)=false:=by simp[h7]
     have e0:(tg==0)=false:=by simp;omega
     have e1:(tg==1)=false:=by simp;omega
     have e4:(tg==4)=false:=by simp;omega
     have e5:(tg==5)=false:=by simp;omega
     clear HN HY HC h7 ht
     go_wp2_with fail
     go_ret;exact A0k.of HF.out HB2.out
  ·obtain rfl:zn=j:=by omega
   have HF:=Lib.hid (HRY.out (B0c HA.out HLn.out))
   go_wp2_with fail
   go_ret;exact A0k.of HF.out HB.out
theorem B4d(w:World)(a:Option Addr)(n cap:Nat)(L:List KV)(fl nm ds:Int)(hs:Ks w a n L)(hn:n≤65536):
  Calls Tryz.prog 60 #[.slice a n cap,.int .i64 fl,.int .i64 nm,.int .i64 ds] w (A0k (A3d L fl nm ds) w):=by
 obtain⟨R,hR⟩:∃R,R=A3d L fl nm ds:=⟨_,rfl⟩;rw[←hR];unfold A3d at hR;have H1:=Lib.hid (C0d w a n cap L nm hs hn)
 have H2:=Lib.hid (fun w' (hb:Below w.heap.size w w')=>C0d w' a n cap L ds (hs.below hb) hn);generalize isT L nm 1=t1 at*;generalize isT L ds 1=t2 at*;by_cases h0:fl=0∨fl=8
 case neg=>
  have HF:=Lib.hid (show false=R by rw[hR];simp[h0]);have e0:(fl==0)=false:=by simp;omega
  have e8:(fl==8)=false:=by simp;omega
  clear hs hR h0;go_enter Tryz.func60,Tryz.ntmps60
  go_wp2_with fail
  go_ret;exact A0k.of HF.out (Below.refl _ _)
 have HR:=Lib.hid (show R=(t1&&t2) by rw[hR];simp[h0]);clear hs hR;go_enter Tryz.func60,Tryz.ntmps60
 cases t1 with
 |false=>
  have HF:=Lib.hid (show false=R by rw[HR.out];rfl)
  rcases h0 with rfl|rfl
  ·go_wp2_with fail
   refine H1.out.mono ?_;rintro e w1 ⟨rfl,hb⟩
   go_wp2_with fail
   go_ret;exact A0k.of HF.out hb
  ·go_wp2_with fail
   refine H1.out.mono ?_;rintro e w1 ⟨rfl,hb⟩
   go_wp2_with fail
   go_ret;exact A0k.of HF.out hb
 |true=>
  have HF:=Lib.hid (show t2=R by rw[HR.out];rfl)
  rcases h0 with rfl|rfl
  ·go_wp2_with fail
   refine H1.out.mono ?_;rintro e w1 ⟨rfl,hb⟩
   go_wp2_with fail
   refine(H2.out w1 hb).mono ?_;rintro e w2 ⟨rfl,hb2⟩
   go_wp2_with fail
   go_ret;exact A0k.of HF.out (hb.trans (hb2.mono hb.size))
  ·go_wp2_with fail
   refine H1.out.mono ?_;rintro e w1 ⟨rfl,hb⟩
   go_wp2_with fail
   refine(H2.out w1 hb).mono ?_;rintro e w2 ⟨rfl,hb2⟩
   go_wp2_with fail
   go_ret;exact A0k.of HF.out (hb.trans (hb2.mono hb.size))
end
end Go.Proofs.YtclpkipaehpkdaaGreatDoor
