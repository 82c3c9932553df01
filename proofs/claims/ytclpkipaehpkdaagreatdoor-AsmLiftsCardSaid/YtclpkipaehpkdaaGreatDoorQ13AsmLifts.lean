/- asm: own texts, merged (wip/merge3.py). No condition. -/
import Derived.Test.YtclpkipaehpkdaaGreatDoorQ06AsmLifts
import Derived.Deep.DeepCutAuto
set_option linter.unusedVariables false
set_option linter.unusedSimpArgs false
set_option maxRecDepth 100000
set_option maxHeartbeats 64000000
namespace Go.Proofs.YtclpkipaehpkdaaGreatDoor
section
open Go.ChangeShapes Go.WideShapes Go.ChangeAt Go.RowKit
theorem Sl.litZ(w:World)(n:Nat)(l:List Int)(t:TypeId)(hn:n=l.length):Sl D9z (w.alloc (.cells (l.map D9z).toArray t)) (some ⟨w.heap.size,0,none⟩) n l:=by
 subst hn;refine⟨rfl,fun _=>⟨w.heap.size,0,rfl,by simp,fun i hi=> ?_⟩⟩;rw[cell_of_row _ w.heap.size (0+i) _ _ _ (heap_alloc_last w _)];simp[hi]
theorem Sl.getZ{w:World}{a:Option Addr}{n:Nat}{l:List Int}(h:Sl D9z w a n l)(j:Nat)(hj:j<n):∃b off v,a=some ⟨b,off,none⟩∧b<w.heap.size∧l[j]? =some v∧w.cell? ⟨b,off+j,none⟩=some (.int .i64 v):=by
 obtain⟨b,off,ha,hlt,hc⟩:=h.2 (by omega);have hl:j<l.length:=by rw[h.1];exact hj
 exact⟨b,off,l[j],ha,hlt,List.getElem?_eq_getElem hl,hc j hl⟩
theorem A2q(odd A p:Bool):(odd|| !(A&&p))=((odd|| !A)|| !p):=by cases odd<;>cases A<;>cases p<;>rfl
theorem C4r(w:World)(g:Nat)(a:Option Addr)(n cap:Nat)(L:List KV)(odd:Bool)(za:Option Addr)(zn zc:Nat)(l:List Int)(h:LkS w g a n cap L odd)(hz:Sl D9z w za zn l)(ho:B1e za zn g)(hzn:zn≤1000):
  Calls Tryz.prog 90 #[.pointer (some ⟨g,0,none⟩),.slice za zn zc] w (C1p g a n cap L (odd|| !l.all A3t) w):=by
 have H:=Lib.hid h;have HZ:=Lib.hid hz;have HZn:=Lib.hid hz.1;have HO:=Lib.hid ho;clear h hz ho;go_enter Tryz.func90,Tryz.ntmps90
 go_wp2_with fail
 go_loopg [8] zn (fun gn i wr=>∃j:Nat,j≤zn∧gn=zn-j∧i= .int .i64 j∧Hid (LkS wr g a n cap L (odd|| !(l.take j).all A3t))∧Hid (A3k g w wr))
 case atStart=>exact⟨0,by omega,by omega,by go_num,Lib.hid (by simpa using H.out),Lib.hid (A3k.refl _ _)⟩
 case round=>
  obtain⟨j,hj,rfl,rfl,HL,HK⟩:=hrel;by_cases hlt:j<zn
  ·obtain⟨b,off,v,rfl,_,hv,q0⟩:=(HZ.out.keep1 HK.out HO.out).getZ j hlt
   have HA:=Lib.hid (show(odd|| !(l.take (j+1)).all A3t)=((odd|| !(l.take j).all A3t)|| !A3t v) by rw[A5g _ _ _ _ hv,A2q])
   have HN:=Lib.hid (A2c wr g a n cap L (odd|| !(l.take j).all A3t) (A3t v) HL.out);clear hv;have hj1:(j:Int)<zn:=by omega
   by_cases hv0:0≤v
   ·by_cases hv1:v≤65535
    ·have HW:=Lib.hid (show A3t v=true from decide_eq_true ⟨hv0,hv1⟩);have e0:=decide_eq_true hv0;have e1:=decide_eq_true hv1;rw[HW.out]at HN HA;clear hv0 hv1
     go_wp2_with fail
     refine HN.out.mono ?_;rintro e w1 ⟨rfl,h1,h2⟩
     go_wp2_with fail
     go_roundg (zn-(j+1))
     case measure=>omega
     case rel=>exact⟨j+1,by omega,rfl,by go_num,Lib.hid (by rw[HA.out];exact h1),Lib.hid (HK.out.trans h2)⟩
    ·have HW:=Lib.hid (show A3t v=false from decide_eq_false fun h=>hv1 h.2);have e0:=decide_eq_true hv0;have e1:=decide_eq_false hv1;rw[HW.out]at HN HA;clear hv0 hv1
     go_wp2_with fail
     refine HN.out.mono ?_;rintro e w1 ⟨rfl,h1,h2⟩
     go_wp2_with fail
     go_roundg (zn-(j+1))
     case measure=>omega
     case rel=>exact⟨j+1,by omega,rfl,by go_num,Lib.hid (by rw[HA.out];exact h1),Lib.hid (HK.out.trans h2)⟩
   ·have HW:=Lib.hid (show A3t v=false from decide_eq_false fun h=>hv0 h.1);have e0:=decide_eq_false hv0;rw[HW.out]at HN HA;clear hv0
    go_wp2_with fail
    refine HN.out.mono ?_;rintro e w1 ⟨rfl,h1,h2⟩
    go_wp2_with fail
    go_roundg (zn-(j+1))
    case measure=>omega
    case rel=>exact⟨j+1,by omega,rfl,by go_num,Lib.hid (by rw[HA.out];exact h1),Lib.hid (HK.out.trans h2)⟩
  ·obtain rfl:j=zn:=by omega
   have HE:=Lib.hid (show l.take j=l by rw[List.take_of_length_le (by rw[HZn.out];exact Nat.le_refl _)]);rw[HE.out]at HL
   go_wp2_with fail
   go_end0;exact⟨rfl,HL.out,HK.out⟩
theorem B6w(w:World)(g:Nat)(a:Option Addr)(n cap:Nat)(L:List KV)(odd:Bool)(za:Option Addr)(zn zc:Nat)(l:List KS)(most:Int)(h:LkS w g a n cap L odd)(hz:Ss 2 KS.cells w za zn l)(ho:B1e za zn g)(hzn:zn≤1000000000):
  Calls Tryz.prog 91 #[.pointer (some ⟨g,0,none⟩),.slice za zn zc,.int .i64 most] w (C1p g a n cap L (odd|| !A4s L most l) w):=by
 have HN0:=Lib.hid (A2c w g a n cap L odd (decide ((zn:Int)≤most)) h);have HZ:=Lib.hid hz;have HZn:=Lib.hid hz.1;have HO:=Lib.hid ho
 have HR:=Lib.hid (show(odd|| !A4s L most l)=((odd|| !decide ((zn:Int)≤most))|| !l.all (A4k L)) by unfold A4s;rw[hz.1,A2q]);rw[HR.out];clear h hz ho;go_enter Tryz.func91,Tryz.ntmps91
 go_wp2_with fail
 refine HN0.out.mono ?_;rintro e w0 ⟨rfl,h1,h2⟩;have H:=Lib.hid h1;have HK0:=Lib.hid h2;generalize(odd|| !decide ((zn:Int)≤most))=odd at*;clear h1 h2 HN0 HR
 go_wp2_with fail
 go_loopg [16] zn (fun gn i wr=>∃j:Nat,j≤zn∧gn=zn-j∧i= .int .i64 j∧Hid (LkS wr g a n cap L (odd|| !(l.take j).all (A4k L)))∧Hid (A3k g w wr))
 case atStart=>exact⟨0,by omega,by omega,by go_num,Lib.hid (by simpa using H.out),HK0⟩
 case round=>
  obtain⟨j,hj,rfl,rfl,HL,HK⟩:=hrel;by_cases hlt:j<zn
  ·obtain⟨b,off,s,rfl,_,hv,q⟩:=(Ss.keep1 HZ.out HK.out HO.out).getC j hlt
   have HA:=Lib.hid (show(odd|| !(l.take (j+1)).all (A4k L))=((odd|| !(l.take j).all (A4k L))|| !A4k L s) by rw[A5g _ _ _ _ hv,A2q]);obtain⟨tg,sa⟩:=s
   have q0:wr.cell? ⟨b,off+j*2,none⟩=some (.int .i64 tg):=q 0 (by omega);have q1:wr.cell? ⟨b,off+j*2+1,none⟩=some (.int .i64 sa):=q 1 (by omega);clear q hv
   generalize(odd|| !(l.take j).all (A4k L))=od at*;have hj1:(j:Int)<zn:=by omega
   have hb:Below wr.heap.size wr (wr.alloc (.cells #[.int .i64 tg,.int .i64 sa] 174)):=A0e _ _;have HL1:=Lib.hid (HL.out.below hb);have HK1:=Lib.hid (HK.out.trans (A3k.of hb))
   have p0:=A0a (heap_alloc_last wr (.cells #[.int .i64 tg,.int .i64 sa] 174)) 0 rfl;have p1:=A0a (heap_alloc_last wr (.cells #[.int .i64 tg,.int .i64 sa] 174)) 1 rfl
   simp only[List.getElem?_toArray,List.getElem_toArray,List.getElem_cons_zero,List.getElem_cons_succ]at p0 p1;clear hb HL HK
   go_upto_region 4 with fail
   clear q0 q1;generalize wr.alloc (.cells #[.int .i64 tg,.int .i64 sa] 174)=W1 at*;by_cases h7:tg=7
   ·subst h7;have HW:=Lib.hid (show A4k L ⟨7,sa⟩=clsOk L sa from rfl)
    go_wp2_with fail
    refine(B0g W1 g a n cap L od sa HL1.out).mono ?_;rintro e w1 ⟨rfl,h1,h2⟩
    go_wp2_with fail
    go_roundg (zn-(j+1))
    case measure=>omega
    case rel=>exact⟨j+1,by omega,rfl,by go_num,Lib.hid (by rw[HA.out,HW.out];exact h1),Lib.hid (HK1.out.trans h2)⟩
   ·by_cases h4:tg=0∨tg=1∨tg=4∨tg=5
    ·have HW:=Lib.hid (show A4k L ⟨tg,sa⟩=(sa==0) by unfold A4k;rw[if_neg h7,decide_eq_true h4];rfl);clear h7
     rcases h4 with rfl|rfl|rfl|rfl
     ·go_wp2_with fail
      refine(A2c W1 g a n cap L od (sa==0) HL1.out).mono ?_;rintro e w1 ⟨rfl,h1,h2⟩
      go_wp2_with fail
      go_roundg (zn-(j+1))
      case measure=>omega
      case rel=>exact⟨j+1,by omega,rfl,by go_num,Lib.hid (by rw[HA.out,HW.out];exact h1),Lib.hid (HK1.out.trans h2)⟩
     ·go_wp2_with fail
      refine(A2c W1 g a n cap L od (sa==0) HL1.out).mono ?_;rintro e w1 ⟨rfl,h1,h2⟩
      go_wp2_with fail
      go_roundg (zn-(j+1))
      case measure=>omega
      case rel=>exact⟨j+1,by omega,rfl,by go_num,Lib.hid (by rw[HA.out,HW.out];exact h1),Lib.hid (HK1.out.trans h2)⟩
     ·go_wp2_with fail
      refine(A2c W1 g a n cap L od (sa==0) HL1.out).mono ?_;rintro e w1 ⟨rfl,h1,h2⟩
      go_wp2_with fail
      go_roundg (zn-(j+1))
      case measure=>omega
      case rel=>exact⟨j+1,by omega,rfl,by go_num,Lib.hid (by rw[HA.out,HW.out];exact h1),Lib.hid (HK1.out.trans h2)⟩
     ·go_wp2_with fail
      refine(A2c W1 g a n cap L od (sa==0) HL1.out).mono ?_;rintro e w1 ⟨rfl,h1,h2⟩
      go_wp2_with fail
      go_roundg (zn-(j+1))
      case measure=>omega
      case rel=>exact⟨j+1,by omega,rfl,by go_num,Lib.hid (by rw[HA.out,HW.out];exact h1),Lib.hid (HK1.out.trans h2)⟩
    ·have HW:=Lib.hid (show A4k L ⟨tg,sa⟩=false by unfold A4k;rw[if_neg h7,decide_eq_false h4];rfl);have e7:(tg==7)=false:=beq_eq_false_iff_ne.2 h7
     have e0:(tg==0)=false:=beq_eq_false_iff_ne.2 (by omega);have e1:(tg==1)=false:=beq_eq_false_iff_ne.2 (by omega);have e4:(tg==4)=false:=beq_eq_false_iff_ne.2 (by omega)
     have e5:(tg==5)=false:=beq_eq_false_iff_ne.2 (by omega);clear h7 h4
     go_wp2_with fail
     refine(A2c W1 g a n cap L od false HL1.out).mono ?_;rintro e w1 ⟨rfl,h1,h2⟩
     go_wp2_with fail
     go_roundg (zn-(j+1))
     case measure=>omega
     case rel=>exact⟨j+1,by omega,rfl,by go_num,Lib.hid (by rw[HA.out,HW.out];exact h1),Lib.hid (HK1.out.trans h2)⟩
  ·obtain rfl:j=zn:=by omega
   have HE:=Lib.hid (show l.take j=l by rw[List.take_of_length_le (by rw[HZn.out];exact Nat.le_refl _)]);rw[HE.out]at HL
   go_wp2_with fail
   go_end0;exact⟨rfl,HL.out,HK.out⟩
theorem D1w(v:BitVec 64)(h:v&&& ~~~8#64=0#64):v=0#64∨v=8#64:=by
 have hb:∀i,i≠3→v.getLsbD i=false:=by
  intro i hi;have h1:=congrArg (fun b=>b.getLsbD i) h
  have h8:(8#64).getLsbD i=false:=by
   rw[show(8#64)=BitVec.twoPow 64 3 by decide,BitVec.getLsbD_twoPow];simp;omega
  simp only[BitVec.getLsbD_and,BitVec.getLsbD_not,h8,Bool.not_false,Bool.and_true,BitVec.getLsbD_zero]at h1;by_cases hl:i<64
  ·simpa[hl]using h1
  ·exact BitVec.getLsbD_of_ge v i (by omega)
 cases h3:v.getLsbD 3
 ·left;apply BitVec.eq_of_getLsbD_eq;intro i hi;by_cases hi3:i=3
  ·subst hi3;rw[h3];rfl
  ·rw[hb i hi3];simp
 ·right;apply BitVec.eq_of_getLsbD_eq;intro i hi;by_cases hi3:i=3
  ·subst hi3;rw[h3];rfl
  ·rw[hb i hi3,show(8#64)=BitVec.twoPow 64 3 by decide,BitVec.getLsbD_twoPow];simp;omega
theorem D6d(fl:Int)(h:A4x fl):(bits .andNot .i64 fl 8==0)=decide (fl=0∨fl=8):=by
 have hd:bits .andNot .i64 fl 8=IntKind.i64.wrap (((BitVec.ofInt 64 fl&&& ~~~8#64).toNat:Nat):Int):=rfl;by_cases h0:fl=0∨fl=8
 ·rw[decide_eq_true h0]
  rcases h0 with rfl|rfl<;>decide
 ·rw[decide_eq_false h0,beq_eq_false_iff_ne,hd];intro hw
  have hz:(BitVec.ofInt 64 fl&&& ~~~8#64)=0#64:=by
   apply BitVec.eq_of_toNat_eq;have hl:=(BitVec.ofInt 64 fl&&& ~~~8#64).isLt;rw[IntKind.wrap_i64]at hw;simp only[BitVec.toNat_ofNat,Nat.zero_mod];omega
  unfold A4x at h;have ht:(BitVec.ofInt 64 fl).toInt=fl:=by rw[BitVec.toInt_ofInt,Int.bmod_def];omega
  rcases D1w _ hz with h8|h8
  ·rw[h8]at ht;exact h0 (.inl (ht.symm.trans (by decide)))
  ·rw[h8]at ht;exact h0 (.inr (ht.symm.trans (by decide)))
theorem B4r(w:World)(g:Nat)(a:Option Addr)(n cap:Nat)(L:List KV)(odd:Bool)(fl nm ds:Int)(h:LkS w g a n cap L odd)(hf:A4x fl):
  Calls Tryz.prog 46 #[.pointer (some ⟨g,0,none⟩),.int .i64 fl,.int .i64 nm,.int .i64 ds] w (C1p g a n cap L (odd|| !A3d L fl nm ds) w):=by
 have H:=Lib.hid h;have HR:=Lib.hid (show(odd|| !A3d L fl nm ds)=(((odd|| !decide (fl=0∨fl=8))|| !isT L nm 1)|| !isT L ds 1) by unfold A3d;rw[A2q,A2q]);rw[HR.out]
 have e8:=D6d fl hf;generalize decide (fl=0∨fl=8)=b8 at*;have HN:=Lib.hid (A2c w g a n cap L odd b8 h);clear h;go_enter Tryz.func46,Tryz.ntmps46
 go_wp2_with fail
 refine HN.out.mono ?_;rintro e w1 ⟨rfl,h1,k1⟩;have H1:=Lib.hid h1;have HK1:=Lib.hid k1;clear h1 k1
 go_wp2_with fail
 refine(C0n w1 g a n cap L _ nm H1.out).mono ?_;rintro e w2 ⟨rfl,h2,k2⟩;have H2:=Lib.hid h2;have HK2:=Lib.hid (HK1.out.trans k2);clear h2 k2
 go_wp2_with fail
 refine(C0n w2 g a n cap L _ ds H2.out).mono ?_;rintro e w3 ⟨rfl,h3,k3⟩;have HK3:=Lib.hid (HK2.out.trans k3)
 go_wp2_with fail
 go_end0;exact⟨rfl,h3,HK3.out⟩
theorem A3k.blk{g b:Nat}{w w':World}{o:Obj}(k:A3k g w w')(h:w.heap[b]? =some o)(hne:b≠g):w'.heap[b]? =some o:=by
 rw[k.block b (Array.getElem?_eq_some_iff.1 h).1 hne];exact h
def MBk(w:World)(b:Nat)(fl nm ds st lo:Int)(ca:Option Addr)(cn cc:Nat)(ta:Option Addr)(tn tc:Nat)(ma:Option Addr)(mn mc:Nat):Prop:=w.heap[b]? =some (.cells #[.int .i64 fl,.int .i64 nm,.int .i64 ds,.int .i64 st,.int .i64 lo,.slice ca cn cc,.slice ta tn tc,.slice ma mn mc] 65)
structure E1g(w:World)(b:Nat)(fl nm ds st lo:Int)(ca:Option Addr)(cn cc:Nat)(ta:Option Addr)(tn tc:Nat)(ma:Option Addr)(mn mc:Nat):Prop where
 c0:w.cell? ⟨b,0,none⟩=some (.int .i64 fl)
 c1:w.cell? ⟨b,1,none⟩=some (.int .i64 nm)
 c2:w.cell? ⟨b,2,none⟩=some (.int .i64 ds)
 c3:w.cell? ⟨b,3,none⟩=some (.int .i64 st)
 c4:w.cell? ⟨b,4,none⟩=some (.int .i64 lo)
 c5:w.cell? ⟨b,5,none⟩=some (.slice ca cn cc)
 c6:w.cell? ⟨b,6,none⟩=some (.slice ta tn tc)
 c7:w.cell? ⟨b,7,none⟩=some (.slice ma mn mc)
section
variable {w w':World} {g b:Nat} {fl nm ds st lo:Int} {ca:Option Addr} {cn cc:Nat} {ta:Option Addr} {tn tc:Nat} {ma:Option Addr} {mn mc:Nat}
theorem MBk.box(h:MBk w b fl nm ds st lo ca cn cc ta tn tc ma mn mc):E1g w b fl nm ds st lo ca cn cc ta tn tc ma mn mc:=
 ⟨A0a h 0 rfl,A0a h 1 rfl,A0a h 2 rfl,A0a h 3 rfl,A0a h 4 rfl,A0a h 5 rfl,A0a h 6 rfl,A0a h 7 rfl⟩
theorem MBk.keep1(h:MBk w b fl nm ds st lo ca cn cc ta tn tc ma mn mc)(k:A3k g w w')(hne:b≠g):MBk w' b fl nm ds st lo ca cn cc ta tn tc ma mn mc:=k.blk h hne
end
theorem C8d(m:KM):B0t m=((decide (0≤m.st)&&decide (m.st≤64))&&decide (0≤m.lo)&&decide (m.lo≤64)):=by
 unfold B0t;by_cases h1:0≤m.st<;>by_cases h2:m.st≤64<;>by_cases h3:0≤m.lo<;>by_cases h4:m.lo≤64<;>simp[h1,h2,h3,h4]
theorem D3s(m:KM)(h1:m.code.length=m.cn)(h2:m.traps.length=m.tn)(h3:m.maps.length=m.mn):A8z m=((decide (0<m.cn)&&decide ((m.cn:Int)≤4096))&&decide ((m.tn:Int)≤255)&&decide ((m.mn:Int)≤255)):=by
 unfold A8z;rw[h1,h2,h3,←Bool.decide_and,←Bool.decide_and,←Bool.decide_and];exact decide_eq_decide.2 (by omega)
theorem C5k(L:List KV)(m:KM)(odd:Bool):(odd|| !A2y L m)=(((((odd|| !A3d L m.fl m.nm m.ds)|| !B0t m)|| !A8z m)|| !m.traps.all (A5j L))|| !m.maps.all (A6f L)|| !A7s L m):=by
 unfold A2y;rw[A2q,A2q,A2q,A2q,A2q]
theorem C2v(W0 w:World)(g:Nat)(a:Option Addr)(n cap:Nat)(L:List KV)(odd:Bool)(m:KM)(h:LkS w g a n cap L odd)(hm:m.Rd W0)(hb:Below W0.heap.size W0 w)(hg:W0.heap.size≤g)(hf:A4x m.fl)(hc:m.cn≤maxLen)(ht:m.tn≤1000000000000)(hp:m.mn≤1000000000000)(hq:∀p∈m.maps,p.ln≤1000000000∧p.sn≤1000000000):
  Calls Tryz.prog 47 #[.pointer (some ⟨g,0,none⟩),.agg #[.int .i64 m.fl,.int .i64 m.nm,.int .i64 m.ds,.int .i64 m.st,.int .i64 m.lo,.slice m.ca m.cn m.cc,.slice m.ta m.tn m.tc,.slice m.ma m.mn m.mc]] w (C1p g a n cap L (odd|| !A2y L m) w):=by
 have HFIN:=Lib.hid (C5k L m odd);rw[HFIN.out];obtain⟨fl,nm,ds,st,lo,ca,cn,cc,code,ta,tn,tc,traps,ma,mn,mc,maps⟩:=m;dsimp only at hf hc ht hp hq⊢
 have HSZ:=Lib.hid (C8d (⟨fl,nm,ds,st,lo,ca,cn,cc,code,ta,tn,tc,traps,ma,mn,mc,maps⟩:KM))
 have HLE:=Lib.hid (D3s (⟨fl,nm,ds,st,lo,ca,cn,cc,code,ta,tn,tc,traps,ma,mn,mc,maps⟩:KM) hm.code.1 hm.traps.1 hm.maps.1);dsimp only at HSZ HLE
 have HT:=Lib.hid (show Ss 4 KT.cells W0 ta tn traps from hm.traps);have HP:=Lib.hid (show Ss 3 KP.cells W0 ma mn maps from hm.maps);have HE:=Lib.hid (show ∀p∈maps,p.Rd W0 from hm.each)
 have HTn:=Lib.hid (show traps.length=tn from hm.traps.1);have HPn:=Lib.hid (show maps.length=mn from hm.maps.1)
 have HNM:=Lib.hid (show A7s L (⟨fl,nm,ds,st,lo,ca,cn,cc,code,ta,tn,tc,traps,ma,mn,mc,maps⟩:KM)=(decide ((0:Int)<(A6a L A7u:Int))&&(((mn:Int)==0)||decide ((0:Int)<(A6a L B6c:Int))))from by
  have hl:maps.length=mn:=hm.maps.1;unfold A7s;dsimp only;rw[hl];by_cases h1:0<A6a L A7u<;>by_cases h2:mn=0<;>by_cases h3:0<A6a L B6c<;>simp[h1,h2,h3])
 generalize B0t (⟨fl,nm,ds,st,lo,ca,cn,cc,code,ta,tn,tc,traps,ma,mn,mc,maps⟩:KM)=szB at*
 generalize A8z (⟨fl,nm,ds,st,lo,ca,cn,cc,code,ta,tn,tc,traps,ma,mn,mc,maps⟩:KM)=leB at*
 generalize A7s L (⟨fl,nm,ds,st,lo,ca,cn,cc,code,ta,tn,tc,traps,ma,mn,mc,maps⟩:KM)=nmB at*
 have hal:Below w.heap.size w (w.alloc (.cells #[.int .i64 fl,.int .i64 nm,.int .i64 ds,.int .i64 st,.int .i64 lo,.slice ca cn cc,.slice ta tn tc,.slice ma mn mc] 65)):=A0e _ _
 have HB1:=Lib.hid (show MBk (w.alloc (.cells #[.int .i64 fl,.int .i64 nm,.int .i64 ds,.int .i64 st,.int .i64 lo,.slice ca cn cc,.slice ta tn tc,.slice ma mn mc] 65)) w.heap.size fl nm ds st lo ca cn cc ta tn tc ma mn mc from heap_alloc_last w _)
 have H1:=Lib.hid (h.below hal);have HK1:=Lib.hid (A3k.of (g:=g) hal);have HW:=Lib.hid hb;have HQ:=Lib.hid hq;have HWg:=Lib.hid hg;have hbg:w.heap.size≠g:=by have:=h.lt;omega
 have HF:=Lib.hid hf;have HFA:=Lib.hid (fun w' (hl:Ks w' a n L)=>C4m w' a n cap L A7u hl h.sm);have HFB:=Lib.hid (fun w' (hl:Ks w' a n L)=>C4m w' a n cap L B6c hl h.sm);unfold A7u at HFA
 unfold B6c at HFB;clear h hm hb hal hq hf hg HFIN;go_enter Tryz.func47,Tryz.ntmps47
 go_upto_region 1 with fail
 generalize w.alloc (.cells #[.int .i64 fl,.int .i64 nm,.int .i64 ds,.int .i64 st,.int .i64 lo,.slice ca cn cc,.slice ta tn tc,.slice ma mn mc] 65)=W1 at*;generalize w.heap.size=bm at*
 obtain⟨c0,c1,c2,c3,c4,c5,c6,c7⟩:=HB1.out.box
 go_wp2_with fail
 refine(B4r W1 g a n cap L odd fl nm ds H1.out HF.out).mono ?_;rintro e w2 ⟨rfl,h2,k2⟩;have HL:=Lib.hid h2;have HB2:=Lib.hid (HB1.out.keep1 k2 hbg);have HK2:=Lib.hid (HK1.out.trans k2)
 generalize A3d L fl nm ds=mbB at*;clear h2 k2 c0 c1 c2 c3 c4 c5 c6 c7 H1 HB1 HK1;obtain⟨c0,c1,c2,c3,c4,c5,c6,c7⟩:=HB2.out.box
 go_upto_region 2 with fail
 go_cut [35] (fun r wx=>Hid (LkS wx g a n cap L ((odd|| !mbB)|| !szB))∧Hid (MBk wx bm fl nm ds st lo ca cn cc ta tn tc ma mn mc)∧Hid (A3k g w wx))
 case first=>
  by_cases h0:0≤st
  ·have e0:=decide_eq_true h0;clear h0;by_cases h1:st≤64
   ·have e1:=decide_eq_true h1;clear h1;by_cases h2:0≤lo
    ·have e2:=decide_eq_true h2;clear h2;by_cases h3:lo≤64
     ·have e3:=decide_eq_true h3;clear h3
      go_wp2_with fail
      refine(A2c _ g a n cap L _ true HL.out).mono ?_;rintro e w3 ⟨rfl,h3,k3⟩
      go_wp2_with fail
      go_meet;refine⟨Lib.hid ?_,Lib.hid (HB2.out.keep1 k3 hbg),Lib.hid (HK2.out.trans k3)⟩
      rw[show szB=true by rw[HSZ.out];simp only[e0,e1,e2,e3,Bool.and_true,Bool.and_self,Bool.true_and]];exact h3
     ·have e3:=decide_eq_false h3;clear h3
      go_wp2_with fail
      refine(A2c _ g a n cap L _ false HL.out).mono ?_;rintro e w3 ⟨rfl,h3,k3⟩
      go_wp2_with fail
      go_meet;refine⟨Lib.hid ?_,Lib.hid (HB2.out.keep1 k3 hbg),Lib.hid (HK2.out.trans k3)⟩
      rw[show szB=false by rw[HSZ.out];simp only[e0,e1,e2,e3,Bool.and_false,Bool.false_and,Bool.and_true,Bool.true_and]];exact h3
    ·have e2:=decide_eq_false h2;clear h2
     go_wp2_with fail
     refine(A2c _ g a n cap L _ false HL.out).mono ?_;rintro e w3 ⟨rfl,h3,k3⟩
     go_wp2_with fail
     go_meet;refine⟨Lib.hid ?_,Lib.hid (HB2.out.keep1 k3 hbg),Lib.hid (HK2.out.trans k3)⟩
     rw[show szB=false by rw[HSZ.out];simp only[e0,e1,e2,Bool.and_false,Bool.false_and,Bool.and_true,Bool.true_and]];exact h3
   ·have e1:=decide_eq_false h1;clear h1
    go_wp2_with fail
    refine(A2c _ g a n cap L _ false HL.out).mono ?_;rintro e w3 ⟨rfl,h3,k3⟩
    go_wp2_with fail
    go_meet;refine⟨Lib.hid ?_,Lib.hid (HB2.out.keep1 k3 hbg),Lib.hid (HK2.out.trans k3)⟩
    rw[show szB=false by rw[HSZ.out];simp only[e0,e1,Bool.and_false,Bool.false_and,Bool.and_true,Bool.true_and]];exact h3
  ·have e0:=decide_eq_false h0;clear h0
   go_wp2_with fail
   refine(A2c _ g a n cap L _ false HL.out).mono ?_;rintro e w3 ⟨rfl,h3,k3⟩
   go_wp2_with fail
   go_meet;refine⟨Lib.hid ?_,Lib.hid (HB2.out.keep1 k3 hbg),Lib.hid (HK2.out.trans k3)⟩
   rw[show szB=false by rw[HSZ.out];simp only[e0,Bool.and_false,Bool.false_and,Bool.and_true,Bool.true_and]];exact h3
 case rest=>
  clear c0 c1 c2 c3 c4 c5 c6 c7 HL HB2 HK2;obtain⟨HL,HB2,HK2⟩:=hcut;generalize((odd|| !mbB)|| !szB)=od2 at*;obtain⟨c0,c1,c2,c3,c4,c5,c6,c7⟩:=HB2.out.box
  go_upto_region 3 with fail
  go_cut [59] (fun r wx=>Hid (LkS wx g a n cap L (od2|| !leB))∧Hid (MBk wx bm fl nm ds st lo ca cn cc ta tn tc ma mn mc)∧Hid (A3k g w wx))
  case first=>
   by_cases h0:0<cn
   ·have e0:=decide_eq_true h0;clear h0;by_cases h1:(cn:Int)≤4096
    ·have e1:=decide_eq_true h1;clear h1;by_cases h2:(tn:Int)≤255
     ·have e2:=decide_eq_true h2;clear h2;by_cases h3:(mn:Int)≤255
      ·have e3:=decide_eq_true h3;clear h3
       go_wp2_with fail
       refine(A2c _ g a n cap L _ true HL.out).mono ?_;rintro e w3 ⟨rfl,h3,k3⟩
       go_wp2_with fail
       go_meet;refine⟨Lib.hid ?_,Lib.hid (HB2.out.keep1 k3 hbg),Lib.hid (HK2.out.trans k3)⟩
       rw[show leB=true by rw[HLE.out];simp only[e0,e1,e2,e3,Bool.and_true,Bool.and_self,Bool.true_and]];exact h3
      ·have e3:=decide_eq_false h3;clear h3
       go_wp2_with fail
       refine(A2c _ g a n cap L _ false HL.out).mono ?_;rintro e w3 ⟨rfl,h3,k3⟩
       go_wp2_with fail
       go_meet;refine⟨Lib.hid ?_,Lib.hid (HB2.out.keep1 k3 hbg),Lib.hid (HK2.out.trans k3)⟩
       rw[show leB=false by rw[HLE.out];simp only[e0,e1,e2,e3,Bool.and_false,Bool.false_and,Bool.and_true,Bool.true_and]];exact h3
     ·have e2:=decide_eq_false h2;clear h2
      go_wp2_with fail
      refine(A2c _ g a n cap L _ false HL.out).mono ?_;rintro e w3 ⟨rfl,h3,k3⟩
      go_wp2_with fail
      go_meet;refine⟨Lib.hid ?_,Lib.hid (HB2.out.keep1 k3 hbg),Lib.hid (HK2.out.trans k3)⟩
      rw[show leB=false by rw[HLE.out];simp only[e0,e1,e2,Bool.and_false,Bool.false_and,Bool.and_true,Bool.true_and]];exact h3
    ·have e1:=decide_eq_false h1;clear h1
     go_wp2_with fail
     refine(A2c _ g a n cap L _ false HL.out).mono ?_;rintro e w3 ⟨rfl,h3,k3⟩
     go_wp2_with fail
     go_meet;refine⟨Lib.hid ?_,Lib.hid (HB2.out.keep1 k3 hbg),Lib.hid (HK2.out.trans k3)⟩
     rw[show leB=false by rw[HLE.out];simp only[e0,e1,Bool.and_false,Bool.false_and,Bool.and_true,Bool.true_and]];exact h3
   ·have e0:=decide_eq_false h0;clear h0
    go_wp2_with fail
    refine(A2c _ g a n cap L _ false HL.out).mono ?_;rintro e w3 ⟨rfl,h3,k3⟩
    go_wp2_with fail
    go_meet;refine⟨Lib.hid ?_,Lib.hid (HB2.out.keep1 k3 hbg),Lib.hid (HK2.out.trans k3)⟩
    rw[show leB=false by rw[HLE.out];simp only[e0,Bool.and_false,Bool.false_and,Bool.and_true,Bool.true_and]];exact h3
  case rest=>
   clear c0 c1 c2 c3 c4 c5 c6 c7 HL HB2 HK2;obtain⟨HL,HB2,HK2⟩:=hcut;generalize(od2|| !leB)=od3 at*;obtain⟨c0,c1,c2,c3,c4,c5,c6,c7⟩:=HB2.out.box
   go_wp2_with fail
   clear c0 c1 c2 c3 c4 c5 c6 c7
   go_loopg [63] tn (fun gn i wr=>∃j:Nat,j≤tn∧gn=tn-j∧i= .int .i64 j∧Hid (LkS wr g a n cap L (od3|| !(traps.take j).all (A5j L)))∧Hid (MBk wr bm fl nm ds st lo ca cn cc ta tn tc ma mn mc)∧Hid (A3k g w wr))
   case atStart=>exact⟨0,by omega,by omega,by go_num,Lib.hid (by simpa using HL.out),HB2,HK2⟩
   case round=>
    clear HL HB2 HK2;obtain⟨j,hj,rfl,rfl,HL,HB2,HK2⟩:=hrel;by_cases hlt:j<tn
    ·obtain⟨b,off,t,rfl,_,hv,q⟩:=(HT.out.below (HK2.out.below HW.out (Nat.le_refl _) HWg.out)).getC j hlt
     have HA:=Lib.hid (show(od3|| !(traps.take (j+1)).all (A5j L))=(((od3|| !(traps.take j).all (A5j L))|| ![t.fr,t.tt,t.pl].all A3t)|| !(decide (t.cl=0)||clsOk L t.cl)) by rw[A5g _ _ _ _ hv,A2q];unfold A5j;rw[A2q])
     obtain⟨fr,tt,pl,cl⟩:=t;dsimp only at HA;have q0:wr.cell? ⟨b,off+j*4,none⟩=some (.int .i64 fr):=q 0 (by omega)
     have q1:wr.cell? ⟨b,off+j*4+1,none⟩=some (.int .i64 tt):=q 1 (by omega);have q2:wr.cell? ⟨b,off+j*4+2,none⟩=some (.int .i64 pl):=q 2 (by omega)
     have q3:wr.cell? ⟨b,off+j*4+3,none⟩=some (.int .i64 cl):=q 3 (by omega);clear q hv;generalize(od3|| !(traps.take j).all (A5j L))=od at*;have hj1:(j:Int)<tn:=by omega
     have hb:Below wr.heap.size wr (wr.alloc (.cells #[.int .i64 fr,.int .i64 tt,.int .i64 pl,.int .i64 cl] 123)):=A0e _ _;have HL4:=Lib.hid (HL.out.below hb)
     have HB4:=Lib.hid (HB2.out.keep1 (A3k.of hb) hbg);have HK4:=Lib.hid (HK2.out.trans (A3k.of hb))
     have HT4:=Lib.hid (heap_alloc_last wr (.cells #[.int .i64 fr,.int .i64 tt,.int .i64 pl,.int .i64 cl] 123));have htg:wr.heap.size≠g:=by have:=HL.out.lt;omega
     clear hb HL HB2 HK2
     go_upto_region 7 with fail
     clear q0 q1 q2 q3;generalize wr.alloc (.cells #[.int .i64 fr,.int .i64 tt,.int .i64 pl,.int .i64 cl] 123)=W4 at*;generalize wr.heap.size=bt at*;have p0:=A0a HT4.out 0 rfl
     have p1:=A0a HT4.out 1 rfl;have p2:=A0a HT4.out 2 rfl;dsimp at p0 p1 p2
     go_wp2_with fail
     have hb5:Below W4.heap.size W4 (W4.alloc (.cells #[.int .i64 fr,.int .i64 tt,.int .i64 pl] 3)):=A0e _ _
     refine(C4r _ g a n cap L _ _ 3 3 [fr,tt,pl] (HL4.out.below hb5) (Sl.litZ W4 3 [fr,tt,pl] 3 rfl) (B1e.new (Ne.symm (Nat.ne_of_lt HL4.out.lt)).symm) (by decide)).mono ?_
     rintro e w6 ⟨rfl,h6,k6⟩;have hk6:=(A3k.of (g:=g) hb5).trans k6;have HL6:=Lib.hid h6;have HB6:=Lib.hid (HB4.out.keep1 hk6 hbg);have HK6:=Lib.hid (HK4.out.trans hk6)
     have HT6:=Lib.hid (hk6.blk HT4.out htg);clear h6 k6 hk6 hb5 HL4 HB4 HK4 HT4 p0 p1 p2;have p3:=A0a HT6.out 3 rfl;dsimp at p3;by_cases h0:cl=0
     ·have e0:(cl !=0)=false:=by simp[h0]
      have HF2:=Lib.hid (show(decide (cl=0)||clsOk L cl)=true by simp[h0]);clear h0
      go_wp2_with fail
      go_roundg (tn-(j+1))
      case measure=>omega
      case rel=>exact⟨j+1,by omega,rfl,by go_num,Lib.hid (by rw[HA.out,HF2.out,Bool.not_true,Bool.or_false];exact HL6.out),HB6,HK6⟩
     ·have e0:(cl !=0)=true:=by simp[h0]
      have HF2:=Lib.hid (show(decide (cl=0)||clsOk L cl)=clsOk L cl by simp[h0]);clear h0
      go_wp2_with fail
      refine(B0g w6 g a n cap L _ cl HL6.out).mono ?_;rintro e w7 ⟨rfl,h7,k7⟩
      go_wp2_with fail
      go_roundg (tn-(j+1))
      case measure=>omega
      case rel=>exact⟨j+1,by omega,rfl,by go_num,Lib.hid (by rw[HA.out,HF2.out];exact h7),Lib.hid (HB6.out.keep1 k7 hbg),Lib.hid (HK6.out.trans k7)⟩
    ·obtain rfl:j=tn:=by omega
     have HEX:=Lib.hid (show traps.take j=traps by rw[List.take_of_length_le (by rw[HTn.out];exact Nat.le_refl _)]);rw[HEX.out]at HL;generalize(od3|| !traps.all (A5j L))=od4 at*
     obtain⟨c0,c1,c2,c3,c4,c5,c6,c7⟩:=HB2.out.box
     go_wp2_with fail
     clear c0 c1 c2 c3 c4 c5 c6 c7
     go_loopg [87] mn (fun gn iv wr=>∃i:Nat,i≤mn∧gn=mn-i∧iv= .int .i64 i∧Hid (LkS wr g a n cap L (od4|| !(maps.take i).all (A6f L)))∧Hid (MBk wr bm fl nm ds st lo ca cn cc ta j tc ma mn mc)∧Hid (A3k g w wr))
     case atStart=>exact⟨0,by omega,by omega,by go_num,Lib.hid (by simpa using HL.out),HB2,HK2⟩
     case round=>
      clear HL HB2 HK2;obtain⟨i,hi,rfl,rfl,HL,HB2,HK2⟩:=hrel;by_cases hli:i<mn
      ·obtain⟨b,off,p,rfl,_,hv,q⟩:=(HP.out.below (HK2.out.below HW.out (Nat.le_refl _) HWg.out)).getC i hli
       have HA:=Lib.hid (show(od4|| !(maps.take (i+1)).all (A6f L))=((((od4|| !(maps.take i).all (A6f L))|| ![p.pl].all A3t)|| !A4s L 64 p.loc)|| !A4s L 64 p.stk) by rw[A5g _ _ _ _ hv,A2q];unfold A6f;rw[A2q,A2q];simp)
       have HR:=Lib.hid (HE.out p (List.mem_of_getElem? hv));have hpq:=HQ.out p (List.mem_of_getElem? hv);obtain⟨pl,la,ln,lc,loc,sa,sn,sc,stk⟩:=p;dsimp only at HA hpq
       obtain⟨hpl,hps⟩:=hpq;have HRL:=Lib.hid (show Ss 2 KS.cells W0 la ln loc from HR.out.loc);have HRS:=Lib.hid (show Ss 2 KS.cells W0 sa sn stk from HR.out.stk)
       have q0:wr.cell? ⟨b,off+i*3,none⟩=some (.int .i64 pl):=q 0 (by omega);have q1:wr.cell? ⟨b,off+i*3+1,none⟩=some (.slice la ln lc):=q 1 (by omega)
       have q2:wr.cell? ⟨b,off+i*3+2,none⟩=some (.slice sa sn sc):=q 2 (by omega);clear q hv HR;generalize(od4|| !(maps.take i).all (A6f L))=od at*
       have hi1:(i:Int)<mn:=by omega
       have hb:Below wr.heap.size wr (wr.alloc (.cells #[.int .i64 pl,.slice la ln lc,.slice sa sn sc] 68)):=A0e _ _;have HL4:=Lib.hid (HL.out.below hb)
       have HB4:=Lib.hid (HB2.out.keep1 (A3k.of hb) hbg);have HK4:=Lib.hid (HK2.out.trans (A3k.of hb))
       have HT4:=Lib.hid (heap_alloc_last wr (.cells #[.int .i64 pl,.slice la ln lc,.slice sa sn sc] 68));have htg:wr.heap.size≠g:=by have:=HL.out.lt;omega
       clear hb HL HB2 HK2
       go_upto_region 14 with fail
       clear q0 q1 q2;generalize wr.alloc (.cells #[.int .i64 pl,.slice la ln lc,.slice sa sn sc] 68)=W4 at*;generalize wr.heap.size=bt at*;have p0:=A0a HT4.out 0 rfl;dsimp at p0
       go_wp2_with fail
       have hb5:Below W4.heap.size W4 (W4.alloc (.cells #[.int .i64 pl] 3)):=A0e _ _
       refine(C4r _ g a n cap L _ _ 1 1 [pl] (HL4.out.below hb5) (Sl.litZ W4 1 [pl] 3 rfl) (B1e.new (Ne.symm (Nat.ne_of_lt HL4.out.lt)).symm) (by decide)).mono ?_;rintro e w6 ⟨rfl,h6,k6⟩
       have hk6:=(A3k.of (g:=g) hb5).trans k6;have HL6:=Lib.hid h6;have HB6:=Lib.hid (HB4.out.keep1 hk6 hbg);have HK6:=Lib.hid (HK4.out.trans hk6)
       have HT6:=Lib.hid (hk6.blk HT4.out htg);clear h6 k6 hk6 hb5 HL4 HB4 HK4 HT4 p0;have p1:=A0a HT6.out 1 rfl;dsimp at p1
       have HW6:=Lib.hid (HK6.out.below HW.out (Nat.le_refl _) HWg.out)
       go_wp2_with fail
       refine(B6w w6 g a n cap L _ la ln lc loc 64 HL6.out (HRL.out.below HW6.out) (B1e.oldS HRL.out HWg.out) hpl).mono ?_;rintro e w7 ⟨rfl,h7,k7⟩;have HL7:=Lib.hid h7
       have HB7:=Lib.hid (HB6.out.keep1 k7 hbg);have HK7:=Lib.hid (HK6.out.trans k7);have HT7:=Lib.hid (k7.blk HT6.out htg);clear h7 k7 HL6 HB6 HK6 HT6 HW6 p1
       have p2:=A0a HT7.out 2 rfl;dsimp at p2;have HW7:=Lib.hid (HK7.out.below HW.out (Nat.le_refl _) HWg.out)
       go_wp2_with fail
       refine(B6w w7 g a n cap L _ sa sn sc stk 64 HL7.out (HRS.out.below HW7.out) (B1e.oldS HRS.out HWg.out) hps).mono ?_;rintro e w8 ⟨rfl,h8,k8⟩
       go_wp2_with fail
       go_roundg (mn-(i+1))
       case measure=>omega
       case rel=>exact⟨i+1,by omega,rfl,by go_num,Lib.hid (by rw[HA.out];exact h8),Lib.hid (HB7.out.keep1 k8 hbg),Lib.hid (HK7.out.trans k8)⟩
      ·obtain rfl:i=mn:=by omega
       have HEX:=Lib.hid (show maps.take i=maps by rw[List.take_of_length_le (by rw[HPn.out];exact Nat.le_refl _)]);rw[HEX.out]at HL;generalize(od4|| !maps.all (A6f L))=od5 at*
       have HNM:=Lib.hid (show nmB=(decide (0<A6a L [67,111,100,101])&&(((i:Int)==0)||decide (0<A6a L [83,116,97,99,107,77,97,112])))from by rw[HNM.out];simp only[A7u,B6c,Int.natCast_pos])
       generalize A6a L [67,111,100,101]=f1 at*;generalize A6a L [83,116,97,99,107,77,97,112]=f2 at*;obtain⟨c0,c1,c2,c3,c4,c5,c6,c7⟩:=HB2.out.box
       obtain⟨k0,k1,fr0,fr1,lt0⟩:=HL.out.k.box
       go_wp2_with fail
       refine(HFA.out wr HL.out.ks).mono ?_;rintro e w8 ⟨rfl,hb8⟩;have HL8:=Lib.hid (HL.out.below hb8);have HK8:=Lib.hid (HK2.out.trans (A3k.of hb8))
       have HB8:=Lib.hid (HB2.out.keep1 (A3k.of hb8) hbg);clear c0 c1 c2 c3 c4 c5 c6 c7 k0 k1 fr0 fr1 lt0 hb8 HL HB2 HK2;obtain⟨c0,c1,c2,c3,c4,c5,c6,c7⟩:=HB8.out.box
       obtain⟨k0,k1,fr0,fr1,lt0⟩:=HL8.out.k.box;by_cases g1:0<f1
       ·have e1:=decide_eq_true g1;clear g1;by_cases g2:i=0
        ·have e2:((i:Int)==0)=true:=by simp[g2]
         clear g2;have HLZ:=HL8;have HKZ:=HK8
         go_wp2_with fail
         refine(A2c _ g a n cap L _ true HLZ.out).mono ?_;rintro e w9 ⟨rfl,h9,k9⟩
         go_wp2_with fail
         go_end0
         exact⟨rfl,by rw[show nmB=true by rw[HNM.out];simp only[e1,e2,Bool.and_true,Bool.true_and,Bool.false_and,Bool.or_true,Bool.true_or,Bool.or_false,Bool.false_or,Bool.and_false]];exact h9,HKZ.out.trans k9⟩
        ·have e2:((i:Int)==0)=false:=by simp[g2]
         clear g2
         go_wp2_with fail
         refine(HFB.out w8 HL8.out.ks).mono ?_;rintro e wz ⟨rfl,hbz⟩;have HLZ:=Lib.hid (HL8.out.below hbz);have HKZ:=Lib.hid (HK8.out.trans (A3k.of hbz));clear hbz
         by_cases g3:0<f2
         ·have e3:=decide_eq_true g3;clear g3
          go_wp2_with fail
          refine(A2c _ g a n cap L _ true HLZ.out).mono ?_;rintro e w9 ⟨rfl,h9,k9⟩
          go_wp2_with fail
          go_end0
          exact⟨rfl,by rw[show nmB=true by rw[HNM.out];simp only[e1,e2,e3,Bool.and_true,Bool.true_and,Bool.false_and,Bool.or_true,Bool.true_or,Bool.or_false,Bool.false_or,Bool.and_false]];exact h9,HKZ.out.trans k9⟩
         ·have e3:=decide_eq_false g3;clear g3
          go_wp2_with fail
          refine(A2c _ g a n cap L _ false HLZ.out).mono ?_;rintro e w9 ⟨rfl,h9,k9⟩
          go_wp2_with fail
          go_end0
          exact⟨rfl,by rw[show nmB=false by rw[HNM.out];simp only[e1,e2,e3,Bool.and_true,Bool.true_and,Bool.false_and,Bool.or_true,Bool.true_or,Bool.or_false,Bool.false_or,Bool.and_false]];exact h9,HKZ.out.trans k9⟩
       ·have e1:=decide_eq_false g1;clear g1;have HLZ:=HL8;have HKZ:=HK8
        go_wp2_with fail
        refine(A2c _ g a n cap L _ false HLZ.out).mono ?_;rintro e w9 ⟨rfl,h9,k9⟩
        go_wp2_with fail
        go_end0
        exact⟨rfl,by rw[show nmB=false by rw[HNM.out];simp only[e1,Bool.and_true,Bool.true_and,Bool.false_and,Bool.or_true,Bool.true_or,Bool.or_false,Bool.false_or,Bool.and_false]];exact h9,HKZ.out.trans k9⟩
end
end Go.Proofs.YtclpkipaehpkdaaGreatDoor
