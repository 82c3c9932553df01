/- asm -/
import Derived.Test.YtclpkipaehpkdaaGreatDoorQ08AsmMade
set_option linter.unusedVariables false
set_option linter.unusedSimpArgs false
set_option maxRecDepth 100000
set_option maxHeartbeats 64000000
namespace Go.Proofs.YtclpkipaehpkdaaGreatDoor
section
open Go.ChangeShapes Go.WideShapes Go.ChangeAt Go.RowKit
theorem Sl.litZ(w:World)(n:Nat)(l:List Int)(t:TypeId)(hn:n=l.length):Sl E1i (w.alloc (.cells (l.map E1i).toArray t)) (some ⟨w.heap.size,0,none⟩) n l:=by
 subst hn;refine⟨rfl,fun _=>⟨w.heap.size,0,rfl,by simp,fun i hi=> ?_⟩⟩;rw[cell_of_row _ w.heap.size (0+i) _ _ _ (heap_alloc_last w _)];simp[hi]
theorem Sl.getZ{w:World}{a:Option Addr}{n:Nat}{l:List Int}(h:Sl E1i w a n l)(j:Nat)(hj:j<n):∃b off v,a=some ⟨b,off,none⟩/\b<w.heap.size/\l[j]? =some v/\w.cell? ⟨b,off+j,none⟩=some (.int .i64 v):=by
 obtain⟨b,off,ha,hlt,hc⟩:=h.2 (by omega);have hl:j<l.length:=by rw[h.1];exact hj
 exact⟨b,off,l[j],ha,hlt,List.getElem?_eq_getElem hl,hc j hl⟩
theorem A2b(odd A p:Bool):(odd|| !(A&&p))=((odd|| !A)|| !p):=by cases odd<;>cases A<;>cases p<;>rfl
theorem C4i(w:World)(g:Nat)(a:Option Addr)(n cap:Nat)(L:List KV)(odd:Bool)(za:Option Addr)(zn zc:Nat)(l:List Int)(h:LkS w g a n cap L odd)(hz:Sl E1i w za zn l)(ho:B1t za zn g)(hzn:zn<=1000):
  Calls Tryz.prog 90 #[.pointer (some ⟨g,0,none⟩),.slice za zn zc] w (C2f g a n cap L (odd|| !l.all A5i) w):=by
 have H:=hzz h;have HZ:=hzz hz;have HZn:=hzz hz.1;have HO:=hzz ho;clear h hz ho;go_enter Tryz.func90,Tryz.ntmps90
 go_wp2_with fail
 go_loopg [8] zn (fun gn i wr=>∃j:Nat,j<=zn/\gn=zn-j/\i= .int .i64 j/\Hid (LkS wr g a n cap L (odd|| !(l.take j).all A5i))/\Hid (A1e g w wr))
 case atStart=>exact⟨0,by omega,by omega,by go_num,hzz (by simpa using H.out),hzz (A1e.refl _ _)⟩
 obtain⟨j,hj,rfl,rfl,HL,HK⟩:=hrel;by_cases hlt:j<zn
 ·obtain⟨b,off,v,rfl,_,hv,q0⟩:=(HZ.out.keep1 HK.out HO.out).getZ j hlt
  have HA:=hzz (show(odd|| !(l.take (j+1)).all A5i)=((odd|| !(l.take j).all A5i)|| !A5i v) by rw[A9t _ _ _ _ hv,A2b])
  have HN:=hzz (A1s wr g a n cap L (odd|| !(l.take j).all A5i) (A5i v) HL.out);clear hv;have hj1:(j:Int)<zn:=by omega
  by_cases hv0:0<=v
  ·by_cases hv1:v<=65535
   ·have HW:=hzz (show A5i v=true from decide_eq_true ⟨hv0,hv1⟩);have e0:=decide_eq_true hv0;have e1:=decide_eq_true hv1;rw[HW.out]at HN HA;clear hv0 hv1
    go_wp2_with fail
    refine HN.out.mono ?_;rintro e w1 ⟨rfl,h1,h2⟩
    go_wp2_with fail
    go_roundg (zn-(j+1))
    case measure=>omega
    exact⟨j+1,by omega,rfl,by go_num,hzz (by rw[HA.out];exact h1),hzz (HK.out.trans h2)⟩
   have HW:=hzz (show A5i v=false from decide_eq_false fun h=>hv1 h.2);have e0:=decide_eq_true hv0;have e1:=decide_eq_false hv1;rw[HW.out]at HN HA;clear hv0 hv1
   go_wp2_with fail
   refine HN.out.mono ?_;rintro e w1 ⟨rfl,h1,h2⟩
   go_wp2_with fail
   go_roundg (zn-(j+1))
   case measure=>omega
   exact⟨j+1,by omega,rfl,by go_num,hzz (by rw[HA.out];exact h1),hzz (HK.out.trans h2)⟩
  have HW:=hzz (show A5i v=false from decide_eq_false fun h=>hv0 h.1);have e0:=decide_eq_false hv0;rw[HW.out]at HN HA;clear hv0
  go_wp2_with fail
  refine HN.out.mono ?_;rintro e w1 ⟨rfl,h1,h2⟩
  go_wp2_with fail
  go_roundg (zn-(j+1))
  case measure=>omega
  exact⟨j+1,by omega,rfl,by go_num,hzz (by rw[HA.out];exact h1),hzz (HK.out.trans h2)⟩
 obtain rfl:j=zn:=by omega
 have HE:=hzz (show l.take j=l by rw[List.take_of_length_le (by rw[HZn.out];exact Nat.le_refl _)]);rw[HE.out]at HL
 go_wp2_with fail
 go_end0;exact⟨rfl,HL.out,HK.out⟩
theorem B6g(w:World)(g:Nat)(a:Option Addr)(n cap:Nat)(L:List KV)(odd:Bool)(za:Option Addr)(zn zc:Nat)(l:List KS)(most:Int)(h:LkS w g a n cap L odd)(hz:Ss 2 KS.cells w za zn l)(ho:B1t za zn g)(hzn:zn<=1000000000):
  Calls Tryz.prog 91 #[.pointer (some ⟨g,0,none⟩),.slice za zn zc,.int .i64 most] w (C2f g a n cap L (odd|| !A8b L most l) w):=by
 have HN0:=hzz (A1s w g a n cap L odd (decide ((zn:Int)<=most)) h);have HZ:=hzz hz;have HZn:=hzz hz.1;have HO:=hzz ho
 have HR:=hzz (show(odd|| !A8b L most l)=((odd|| !decide ((zn:Int)<=most))|| !l.all (A5j L)) by unfold A8b;rw[hz.1,A2b]);rw[HR.out];clear h hz ho;go_enter Tryz.func91,Tryz.ntmps91
 go_wp2_with fail
 refine HN0.out.mono ?_;rintro e w0 ⟨rfl,h1,h2⟩;have H:=hzz h1;have HK0:=hzz h2;generalize(odd|| !decide ((zn:Int)<=most))=odd at*;clear h1 h2 HN0 HR
 go_wp2_with fail
 go_loopg [16] zn (fun gn i wr=>∃j:Nat,j<=zn/\gn=zn-j/\i= .int .i64 j/\Hid (LkS wr g a n cap L (odd|| !(l.take j).all (A5j L)))/\Hid (A1e g w wr))
 case atStart=>exact⟨0,by omega,by omega,by go_num,hzz (by simpa using H.out),HK0⟩
 obtain⟨j,hj,rfl,rfl,HL,HK⟩:=hrel;by_cases hlt:j<zn
 ·obtain⟨b,off,s,rfl,_,hv,q⟩:=(Ss.keep1 HZ.out HK.out HO.out).getC j hlt
  have HA:=hzz (show(odd|| !(l.take (j+1)).all (A5j L))=((odd|| !(l.take j).all (A5j L))|| !A5j L s) by rw[A9t _ _ _ _ hv,A2b]);obtain⟨tg,sa⟩:=s
  have q0:wr.cell? ⟨b,off+j*2,none⟩=some (.int .i64 tg):=q 0 (by omega);have q1:wr.cell? ⟨b,off+j*2+1,none⟩=some (.int .i64 sa):=q 1 (by omega);clear q hv
  generalize(odd|| !(l.take j).all (A5j L))=od at*;have hj1:(j:Int)<zn:=by omega
  have hb:Below wr.heap.size wr (wr.alloc (.cells #[.int .i64 tg,.int .i64 sa] 174)):=A0f _ _;have HL1:=hzz (HL.out.below hb);have HK1:=hzz (HK.out.trans (A1e.of hb))
  have p0:=A0a (heap_alloc_last wr (.cells #[.int .i64 tg,.int .i64 sa] 174)) 0 rfl;have p1:=A0a (heap_alloc_last wr (.cells #[.int .i64 tg,.int .i64 sa] 174)) 1 rfl
  simp only[List.getElem?_toArray,List.getElem_toArray,List.getElem_cons_zero,List.getElem_cons_succ]at p0 p1;clear hb HL HK
  go_upto_region 4 with fail
  clear q0 q1;generalize wr.alloc _=W1 at*;by_cases h7:tg=7
  ·subst h7;have HW:=hzz (show A5j L ⟨7,sa⟩=clsOk L sa from rfl)
   go_wp2_with fail
   refine(A9s W1 g a n cap L od sa HL1.out).mono ?_;rintro e w1 ⟨rfl,h1,h2⟩
   go_wp2_with fail
   go_roundg (zn-(j+1))
   case measure=>omega
   exact⟨j+1,by omega,rfl,by go_num,hzz (by rw[HA.out,HW.out];exact h1),hzz (HK1.out.trans h2)⟩
  by_cases h4:tg=0\/tg=1\/tg=4\/tg=5
  ·have HW:=hzz (show A5j L ⟨tg,sa⟩=(sa==0) by unfold A5j;rw[if_neg h7,decide_eq_true h4];rfl);clear h7
   rcases h4 with rfl|rfl|rfl|rfl
   ·go_wp2_with fail
    refine(A1s W1 g a n cap L od (sa==0) HL1.out).mono ?_;rintro e w1 ⟨rfl,h1,h2⟩
    go_wp2_with fail
    go_roundg (zn-(j+1))
    case measure=>omega
    exact⟨j+1,by omega,rfl,by go_num,hzz (by rw[HA.out,HW.out];exact h1),hzz (HK1.out.trans h2)⟩
   ·go_wp2_with fail
    refine(A1s W1 g a n cap L od (sa==0) HL1.out).mono ?_;rintro e w1 ⟨rfl,h1,h2⟩
    go_wp2_with fail
    go_roundg (zn-(j+1))
    case measure=>omega
    exact⟨j+1,by omega,rfl,by go_num,hzz (by rw[HA.out,HW.out];exact h1),hzz (HK1.out.trans h2)⟩
   ·go_wp2_with fail
    refine(A1s W1 g a n cap L od (sa==0) HL1.out).mono ?_;rintro e w1 ⟨rfl,h1,h2⟩
    go_wp2_with fail
    go_roundg (zn-(j+1))
    case measure=>omega
    exact⟨j+1,by omega,rfl,by go_num,hzz (by rw[HA.out,HW.out];exact h1),hzz (HK1.out.trans h2)⟩
   go_wp2_with fail
   refine(A1s W1 g a n cap L od (sa==0) HL1.out).mono ?_;rintro e w1 ⟨rfl,h1,h2⟩
   go_wp2_with fail
   go_roundg (zn-(j+1))
   case measure=>omega
   exact⟨j+1,by omega,rfl,by go_num,hzz (by rw[HA.out,HW.out];exact h1),hzz (HK1.out.trans h2)⟩
  have HW:=hzz (show A5j L ⟨tg,sa⟩=false by unfold A5j;rw[if_neg h7,decide_eq_false h4];rfl);have e7:(tg==7)=false:=beq_eq_false_iff_ne.2 h7
  have e0:(tg==0)=false:=beq_eq_false_iff_ne.2 (by omega);have e1:(tg==1)=false:=beq_eq_false_iff_ne.2 (by omega);have e4:(tg==4)=false:=beq_eq_false_iff_ne.2 (by omega)
  have e5:(tg==5)=false:=beq_eq_false_iff_ne.2 (by omega);clear h7 h4
  go_wp2_with fail
  refine(A1s W1 g a n cap L od false HL1.out).mono ?_;rintro e w1 ⟨rfl,h1,h2⟩
  go_wp2_with fail
  go_roundg (zn-(j+1))
  case measure=>omega
  exact⟨j+1,by omega,rfl,by go_num,hzz (by rw[HA.out,HW.out];exact h1),hzz (HK1.out.trans h2)⟩
 obtain rfl:j=zn:=by omega
 have HE:=hzz (show l.take j=l by rw[List.take_of_length_le (by rw[HZn.out];exact Nat.le_refl _)]);rw[HE.out]at HL
 go_wp2_with fail
 go_end0;exact⟨rfl,HL.out,HK.out⟩
theorem D2t(v:BitVec 64)(h:v&&& ~~~8#64=0#64):v=0#64\/v=8#64:=by
 have hb:∀i,i≠3->v.getLsbD i=false:=by
  intro i hi;have h1:=congrArg (fun b=>b.getLsbD i) h
  have h8:(8#64).getLsbD i=false:=by
   rw[show(8#64)=BitVec.twoPow 64 3 by decide,BitVec.getLsbD_twoPow];simp;omega
  simp only[BitVec.getLsbD_and,BitVec.getLsbD_not,h8,Bool.not_false,Bool.and_true,BitVec.getLsbD_zero]at h1;by_cases hl:i<64
  ·simpa[hl]using h1
  exact BitVec.getLsbD_of_ge v i (by omega)
 cases h3:v.getLsbD 3
 ·left;apply BitVec.eq_of_getLsbD_eq;intro i hi;by_cases hi3:i=3
  ·subst hi3;rw[h3];rfl
  rw[hb i hi3];simp
 right;apply BitVec.eq_of_getLsbD_eq;intro i hi;by_cases hi3:i=3
 ·subst hi3;rw[h3];rfl
 rw[hb i hi3,show(8#64)=BitVec.twoPow 64 3 by decide,BitVec.getLsbD_twoPow];simp;omega
theorem D7i(fl:Int)(h:A9r fl):(bits .andNot .i64 fl 8==0)=decide (fl=0\/fl=8):=by
 have hd:bits .andNot .i64 fl 8=IntKind.i64.wrap (((BitVec.ofInt 64 fl&&& ~~~8#64).toNat:Nat):Int):=rfl;by_cases h0:fl=0\/fl=8
 ·rw[decide_eq_true h0]
  rcases h0 with rfl|rfl<;>decide
 rw[decide_eq_false h0,beq_eq_false_iff_ne,hd];intro hw
 have hz:(BitVec.ofInt 64 fl&&& ~~~8#64)=0#64:=by
  apply BitVec.eq_of_toNat_eq;have hl:=(BitVec.ofInt 64 fl&&& ~~~8#64).isLt;rw[IntKind.wrap_i64]at hw;simp only[BitVec.toNat_ofNat,Nat.zero_mod];omega
 unfold A9r at h;have ht:(BitVec.ofInt 64 fl).toInt=fl:=by rw[BitVec.toInt_ofInt,Int.bmod_def];omega
 rcases D2t _ hz with h8|h8
 ·rw[h8]at ht;exact h0 (.inl (ht.symm.trans (by decide)))
 rw[h8]at ht;exact h0 (.inr (ht.symm.trans (by decide)))
theorem B3j(w:World)(g:Nat)(a:Option Addr)(n cap:Nat)(L:List KV)(odd:Bool)(fl nm ds:Int)(h:LkS w g a n cap L odd)(hf:A9r fl):
  Calls Tryz.prog 46 #[.pointer (some ⟨g,0,none⟩),.int .i64 fl,.int .i64 nm,.int .i64 ds] w (C2f g a n cap L (odd|| !A4f L fl nm ds) w):=by
 have H:=hzz h;have HR:=hzz (show(odd|| !A4f L fl nm ds)=(((odd|| !decide (fl=0\/fl=8))|| !isT L nm 1)|| !isT L ds 1) by unfold A4f;rw[A2b,A2b]);rw[HR.out]
 have e8:=D7i fl hf;generalize decide (fl=0\/fl=8)=b8 at*;have HN:=hzz (A1s w g a n cap L odd b8 h);clear h;go_enter Tryz.func46,Tryz.ntmps46
 go_wp2_with fail
 refine HN.out.mono ?_;rintro e w1 ⟨rfl,h1,k1⟩;have H1:=hzz h1;have HK1:=hzz k1;clear h1 k1
 go_wp2_with fail
 refine(B8b w1 g a n cap L _ nm H1.out).mono ?_;rintro e w2 ⟨rfl,h2,k2⟩;have H2:=hzz h2;have HK2:=hzz (HK1.out.trans k2);clear h2 k2
 go_wp2_with fail
 refine(B8b w2 g a n cap L _ ds H2.out).mono ?_;rintro e w3 ⟨rfl,h3,k3⟩;have HK3:=hzz (HK2.out.trans k3)
 go_wp2_with fail
 go_end0;exact⟨rfl,h3,HK3.out⟩
theorem A1e.blk{g b:Nat}{w w':World}{o:Obj}(k:A1e g w w')(h:w.heap[b]? =some o)(hne:b≠g):w'.heap[b]? =some o:=by
 rw[k.block b (Array.getElem?_eq_some_iff.1 h).1 hne];exact h
def MBk(w:World)(b:Nat)(fl nm ds st lo:Int)(ca:Option Addr)(cn cc:Nat)(ta:Option Addr)(tn tc:Nat)(ma:Option Addr)(mn mc:Nat):Prop:=w.heap[b]? =some (.cells #[.int .i64 fl,.int .i64 nm,.int .i64 ds,.int .i64 st,.int .i64 lo,.slice ca cn cc,.slice ta tn tc,.slice ma mn mc] 65)
structure E2e(w:World)(b:Nat)(fl nm ds st lo:Int)(ca:Option Addr)(cn cc:Nat)(ta:Option Addr)(tn tc:Nat)(ma:Option Addr)(mn mc:Nat):Prop where
 c0:w.cell? ⟨b,0,none⟩=some (.int .i64 fl)
 c1:w.cell? ⟨b,1,none⟩=some (.int .i64 nm)
 c2:w.cell? ⟨b,2,none⟩=some (.int .i64 ds)
 c3:w.cell? ⟨b,3,none⟩=some (.int .i64 st)
 c4:w.cell? ⟨b,4,none⟩=some (.int .i64 lo)
 c5:w.cell? ⟨b,5,none⟩=some (.slice ca cn cc)
 c6:w.cell? ⟨b,6,none⟩=some (.slice ta tn tc)
 c7:w.cell? ⟨b,7,none⟩=some (.slice ma mn mc)
section
variable {w w':World} {g b:Nat} {fl nm ds st lo:Int} {ca:Option Addr} {cn cc:Nat} {ta:Option Addr} {tn tc:Nat} {ma:Option Addr} {mn mc:Nat}
theorem MBk.box(h:MBk w b fl nm ds st lo ca cn cc ta tn tc ma mn mc):E2e w b fl nm ds st lo ca cn cc ta tn tc ma mn mc:=
 ⟨A0a h 0 rfl,A0a h 1 rfl,A0a h 2 rfl,A0a h 3 rfl,A0a h 4 rfl,A0a h 5 rfl,A0a h 6 rfl,A0a h 7 rfl⟩
theorem MBk.keep1(h:MBk w b fl nm ds st lo ca cn cc ta tn tc ma mn mc)(k:A1e g w w')(hne:b≠g):MBk w' b fl nm ds st lo ca cn cc ta tn tc ma mn mc:=k.blk h hne
end
theorem C7y(m:KM):B0n m=((decide (0<=m.st)&&decide (m.st<=64))&&decide (0<=m.lo)&&decide (m.lo<=64)):=by
 unfold B0n;by_cases h1:0<=m.st<;>by_cases h2:m.st<=64<;>by_cases h3:0<=m.lo<;>by_cases h4:m.lo<=64<;>simp[h1,h2,h3,h4]
theorem D3z(m:KM)(h1:m.code.length=m.cn)(h2:m.traps.length=m.tn)(h3:m.maps.length=m.mn):A9d m=((decide (0<m.cn)&&decide ((m.cn:Int)<=4096))&&decide ((m.tn:Int)<=255)&&decide ((m.mn:Int)<=255)):=by
 unfold A9d;rw[h1,h2,h3,<-Bool.decide_and,<-Bool.decide_and,<-Bool.decide_and];exact decide_eq_decide.2 (by omega)
theorem C6a(L:List KV)(m:KM)(odd:Bool):(odd|| !A3z L m)=(((((odd|| !A4f L m.fl m.nm m.ds)|| !B0n m)|| !A9d m)|| !m.traps.all (A7b L))|| !m.maps.all (A8i L)|| !A7k L m):=by
 unfold A3z;rw[A2b,A2b,A2b,A2b,A2b]
theorem C2k(W0 w:World)(g:Nat)(a:Option Addr)(n cap:Nat)(L:List KV)(odd:Bool)(m:KM)(h:LkS w g a n cap L odd)(hm:m.Rd W0)(hb:Below W0.heap.size W0 w)(hg:W0.heap.size<=g)(hf:A9r m.fl)(hc:m.cn<=maxLen)(ht:m.tn<=1000000000000)(hp:m.mn<=1000000000000)(hq:∀p∈m.maps,p.ln<=1000000000/\p.sn<=1000000000):
  Calls Tryz.prog 47 #[.pointer (some ⟨g,0,none⟩),.agg #[.int .i64 m.fl,.int .i64 m.nm,.int .i64 m.ds,.int .i64 m.st,.int .i64 m.lo,.slice m.ca m.cn m.cc,.slice m.ta m.tn m.tc,.slice m.ma m.mn m.mc]] w (C2f g a n cap L (odd|| !A3z L m) w):=by
 have HFIN:=hzz (C6a L m odd);rw[HFIN.out];obtain⟨fl,nm,ds,st,lo,ca,cn,cc,code,ta,tn,tc,traps,ma,mn,mc,maps⟩:=m;dsimp only at hf hc ht hp hq⊢
 have HSZ:=hzz (C7y (⟨fl,nm,ds,st,lo,ca,cn,cc,code,ta,tn,tc,traps,ma,mn,mc,maps⟩:KM))
 have HLE:=hzz (D3z (⟨fl,nm,ds,st,lo,ca,cn,cc,code,ta,tn,tc,traps,ma,mn,mc,maps⟩:KM) hm.code.1 hm.traps.1 hm.maps.1);dsimp only at HSZ HLE
 have HT:=hzz (show Ss 4 KT.cells W0 ta tn traps from hm.traps);have HP:=hzz (show Ss 3 KP.cells W0 ma mn maps from hm.maps);have HE:=hzz (show ∀p∈maps,p.Rd W0 from hm.each)
 have HTn:=hzz (show traps.length=tn from hm.traps.1);have HPn:=hzz (show maps.length=mn from hm.maps.1)
 have HNM:=hzz (show A7k L (⟨fl,nm,ds,st,lo,ca,cn,cc,code,ta,tn,tc,traps,ma,mn,mc,maps⟩:KM)=(decide ((0:Int)<(A7t L A6z:Int))&&(((mn:Int)==0)||decide ((0:Int)<(A7t L B4t:Int))))from by
  have hl:maps.length=mn:=hm.maps.1;unfold A7k;dsimp only;rw[hl];by_cases h1:0<A7t L A6z<;>by_cases h2:mn=0<;>by_cases h3:0<A7t L B4t<;>simp[h1,h2,h3])
 generalize B0n (⟨fl,nm,ds,st,lo,ca,cn,cc,code,ta,tn,tc,traps,ma,mn,mc,maps⟩:KM)=szB at*
 generalize A9d (⟨fl,nm,ds,st,lo,ca,cn,cc,code,ta,tn,tc,traps,ma,mn,mc,maps⟩:KM)=leB at*
 generalize A7k L (⟨fl,nm,ds,st,lo,ca,cn,cc,code,ta,tn,tc,traps,ma,mn,mc,maps⟩:KM)=nmB at*
 have hal:Below w.heap.size w (w.alloc (.cells #[.int .i64 fl,.int .i64 nm,.int .i64 ds,.int .i64 st,.int .i64 lo,.slice ca cn cc,.slice ta tn tc,.slice ma mn mc] 65)):=A0f _ _
 have HB1:=hzz (show MBk (w.alloc (.cells #[.int .i64 fl,.int .i64 nm,.int .i64 ds,.int .i64 st,.int .i64 lo,.slice ca cn cc,.slice ta tn tc,.slice ma mn mc] 65)) w.heap.size fl nm ds st lo ca cn cc ta tn tc ma mn mc from heap_alloc_last w _)
 have H1:=hzz (h.below hal);have HK1:=hzz (A1e.of (g:=g) hal);have HW:=hzz hb;have HQ:=hzz hq;have HWg:=hzz hg;have hbg:w.heap.size≠g:=by have:=h.lt;omega
 have HF:=hzz hf;have HFA:=hzz (fun w' (hl:Ks w' a n L)=>C3p w' a n cap L A6z hl h.sm);have HFB:=hzz (fun w' (hl:Ks w' a n L)=>C3p w' a n cap L B4t hl h.sm);unfold A6z at HFA
 unfold B4t at HFB;clear h hm hb hal hq hf hg HFIN;go_enter Tryz.func47,Tryz.ntmps47
 go_upto_region 1 with fail
 generalize w.alloc _=W1 at*;generalize w.heap.size=bm at*;obtain⟨c0,c1,c2,c3,c4,c5,c6,c7⟩:=HB1.out.box
 go_wp2_with fail
 refine(B3j W1 g a n cap L odd fl nm ds H1.out HF.out).mono ?_;rintro e w2 ⟨rfl,h2,k2⟩;have HL:=hzz h2;have HB2:=hzz (HB1.out.keep1 k2 hbg);have HK2:=hzz (HK1.out.trans k2)
 generalize A4f L fl nm ds=mbB at*;clear h2 k2 c0 c1 c2 c3 c4 c5 c6 c7 H1 HB1 HK1;obtain⟨c0,c1,c2,c3,c4,c5,c6,c7⟩:=HB2.out.box
 go_upto_region 2 with fail
 go_cut [35] (fun r wx=>Hid (LkS wx g a n cap L ((odd|| !mbB)|| !szB))/\Hid (MBk wx bm fl nm ds st lo ca cn cc ta tn tc ma mn mc)/\Hid (A1e g w wx))
 case first=>
  by_cases h0:0<=st
  ·have e0:=decide_eq_true h0;clear h0;by_cases h1:st<=64
   ·have e1:=decide_eq_true h1;clear h1;by_cases h2:0<=lo
    ·have e2:=decide_eq_true h2;clear h2;by_cases h3:lo<=64
     ·have e3:=decide_eq_true h3;clear h3
      go_wp2_with fail
      refine(A1s _ g a n cap L _ true HL.out).mono ?_;rintro e w3 ⟨rfl,h3,k3⟩
      go_wp2_with fail
      go_meet;refine⟨hzz ?_,hzz (HB2.out.keep1 k3 hbg),hzz (HK2.out.trans k3)⟩;rw[show szB=true by rw[HSZ.out];simp only[e0,e1,e2,e3,Bool.and_true,Bool.and_self,Bool.true_and]];exact h3
     have e3:=decide_eq_false h3;clear h3
     go_wp2_with fail
     refine(A1s _ g a n cap L _ false HL.out).mono ?_;rintro e w3 ⟨rfl,h3,k3⟩
     go_wp2_with fail
     go_meet;refine⟨hzz ?_,hzz (HB2.out.keep1 k3 hbg),hzz (HK2.out.trans k3)⟩
     rw[show szB=false by rw[HSZ.out];simp only[e0,e1,e2,e3,Bool.and_false,Bool.false_and,Bool.and_true,Bool.true_and]];exact h3
    have e2:=decide_eq_false h2;clear h2
    go_wp2_with fail
    refine(A1s _ g a n cap L _ false HL.out).mono ?_;rintro e w3 ⟨rfl,h3,k3⟩
    go_wp2_with fail
    go_meet;refine⟨hzz ?_,hzz (HB2.out.keep1 k3 hbg),hzz (HK2.out.trans k3)⟩
    rw[show szB=false by rw[HSZ.out];simp only[e0,e1,e2,Bool.and_false,Bool.false_and,Bool.and_true,Bool.true_and]];exact h3
   have e1:=decide_eq_false h1;clear h1
   go_wp2_with fail
   refine(A1s _ g a n cap L _ false HL.out).mono ?_;rintro e w3 ⟨rfl,h3,k3⟩
   go_wp2_with fail
   go_meet;refine⟨hzz ?_,hzz (HB2.out.keep1 k3 hbg),hzz (HK2.out.trans k3)⟩;rw[show szB=false by rw[HSZ.out];simp only[e0,e1,Bool.and_false,Bool.false_and,Bool.and_true,Bool.true_and]];exact h3
  have e0:=decide_eq_false h0;clear h0
  go_wp2_with fail
  refine(A1s _ g a n cap L _ false HL.out).mono ?_;rintro e w3 ⟨rfl,h3,k3⟩
  go_wp2_with fail
  go_meet;refine⟨hzz ?_,hzz (HB2.out.keep1 k3 hbg),hzz (HK2.out.trans k3)⟩;rw[show szB=false by rw[HSZ.out];simp only[e0,Bool.and_false,Bool.false_and,Bool.and_true,Bool.true_and]];exact h3
 clear c0 c1 c2 c3 c4 c5 c6 c7 HL HB2 HK2;obtain⟨HL,HB2,HK2⟩:=hcut;generalize((odd|| !mbB)|| !szB)=od2 at*;obtain⟨c0,c1,c2,c3,c4,c5,c6,c7⟩:=HB2.out.box
 go_upto_region 3 with fail
 go_cut [59] (fun r wx=>Hid (LkS wx g a n cap L (od2|| !leB))/\Hid (MBk wx bm fl nm ds st lo ca cn cc ta tn tc ma mn mc)/\Hid (A1e g w wx))
 case first=>
  by_cases h0:0<cn
  ·have e0:=decide_eq_true h0;clear h0;by_cases h1:(cn:Int)<=4096
   ·have e1:=decide_eq_true h1;clear h1;by_cases h2:(tn:Int)<=255
    ·have e2:=decide_eq_true h2;clear h2;by_cases h3:(mn:Int)<=255
     ·have e3:=decide_eq_true h3;clear h3
      go_wp2_with fail
      refine(A1s _ g a n cap L _ true HL.out).mono ?_;rintro e w3 ⟨rfl,h3,k3⟩
      go_wp2_with fail
      go_meet;refine⟨hzz ?_,hzz (HB2.out.keep1 k3 hbg),hzz (HK2.out.trans k3)⟩;rw[show leB=true by rw[HLE.out];simp only[e0,e1,e2,e3,Bool.and_true,Bool.and_self,Bool.true_and]];exact h3
     have e3:=decide_eq_false h3;clear h3
     go_wp2_with fail
     refine(A1s _ g a n cap L _ false HL.out).mono ?_;rintro e w3 ⟨rfl,h3,k3⟩
     go_wp2_with fail
     go_meet;refine⟨hzz ?_,hzz (HB2.out.keep1 k3 hbg),hzz (HK2.out.trans k3)⟩
     rw[show leB=false by rw[HLE.out];simp only[e0,e1,e2,e3,Bool.and_false,Bool.false_and,Bool.and_true,Bool.true_and]];exact h3
    have e2:=decide_eq_false h2;clear h2
    go_wp2_with fail
    refine(A1s _ g a n cap L _ false HL.out).mono ?_;rintro e w3 ⟨rfl,h3,k3⟩
    go_wp2_with fail
    go_meet;refine⟨hzz ?_,hzz (HB2.out.keep1 k3 hbg),hzz (HK2.out.trans k3)⟩
    rw[show leB=false by rw[HLE.out];simp only[e0,e1,e2,Bool.and_false,Bool.false_and,Bool.and_true,Bool.true_and]];exact h3
   have e1:=decide_eq_false h1;clear h1
   go_wp2_with fail
   refine(A1s _ g a n cap L _ false HL.out).mono ?_;rintro e w3 ⟨rfl,h3,k3⟩
   go_wp2_with fail
   go_meet;refine⟨hzz ?_,hzz (HB2.out.keep1 k3 hbg),hzz (HK2.out.trans k3)⟩;rw[show leB=false by rw[HLE.out];simp only[e0,e1,Bool.and_false,Bool.false_and,Bool.and_true,Bool.true_and]];exact h3
  have e0:=decide_eq_false h0;clear h0
  go_wp2_with fail
  refine(A1s _ g a n cap L _ false HL.out).mono ?_;rintro e w3 ⟨rfl,h3,k3⟩
  go_wp2_with fail
  go_meet;refine⟨hzz ?_,hzz (HB2.out.keep1 k3 hbg),hzz (HK2.out.trans k3)⟩;rw[show leB=false by rw[HLE.out];simp only[e0,Bool.and_false,Bool.false_and,Bool.and_true,Bool.true_and]];exact h3
 clear c0 c1 c2 c3 c4 c5 c6 c7 HL HB2 HK2;obtain⟨HL,HB2,HK2⟩:=hcut;generalize(od2|| !leB)=od3 at*;obtain⟨c0,c1,c2,c3,c4,c5,c6,c7⟩:=HB2.out.box
 go_wp2_with fail
 clear c0 c1 c2 c3 c4 c5 c6 c7
 go_loopg [63] tn (fun gn i wr=>∃j:Nat,j<=tn/\gn=tn-j/\i= .int .i64 j/\Hid (LkS wr g a n cap L (od3|| !(traps.take j).all (A7b L)))/\Hid (MBk wr bm fl nm ds st lo ca cn cc ta tn tc ma mn mc)/\Hid (A1e g w wr))
 case atStart=>exact⟨0,by omega,by omega,by go_num,hzz (by simpa using HL.out),HB2,HK2⟩
 clear HL HB2 HK2;obtain⟨j,hj,rfl,rfl,HL,HB2,HK2⟩:=hrel;by_cases hlt:j<tn
 ·obtain⟨b,off,t,rfl,_,hv,q⟩:=(HT.out.below (HK2.out.below HW.out nlz HWg.out)).getC j hlt
  have HA:=hzz (show(od3|| !(traps.take (j+1)).all (A7b L))=(((od3|| !(traps.take j).all (A7b L))|| ![t.fr,t.tt,t.pl].all A5i)|| !(decide (t.cl=0)||clsOk L t.cl)) by rw[A9t _ _ _ _ hv,A2b];unfold A7b;rw[A2b])
  obtain⟨fr,tt,pl,cl⟩:=t;dsimp only at HA;have q0:wr.cell? ⟨b,off+j*4,none⟩=some (.int .i64 fr):=q 0 (by omega)
  have q1:wr.cell? ⟨b,off+j*4+1,none⟩=some (.int .i64 tt):=q 1 (by omega);have q2:wr.cell? ⟨b,off+j*4+2,none⟩=some (.int .i64 pl):=q 2 (by omega)
  have q3:wr.cell? ⟨b,off+j*4+3,none⟩=some (.int .i64 cl):=q 3 (by omega);clear q hv;generalize(od3|| !(traps.take j).all (A7b L))=od at*;have hj1:(j:Int)<tn:=by omega
  have hb:Below wr.heap.size wr (wr.alloc (.cells #[.int .i64 fr,.int .i64 tt,.int .i64 pl,.int .i64 cl] 123)):=A0f _ _;have HL4:=hzz (HL.out.below hb)
  have HB4:=hzz (HB2.out.keep1 (A1e.of hb) hbg);have HK4:=hzz (HK2.out.trans (A1e.of hb));have HT4:=hzz (heap_alloc_last wr (.cells #[.int .i64 fr,.int .i64 tt,.int .i64 pl,.int .i64 cl] 123))
  have htg:wr.heap.size≠g:=by have:=HL.out.lt;omega
  clear hb HL HB2 HK2
  go_upto_region 7 with fail
  clear q0 q1 q2 q3;generalize wr.alloc _=W4 at*;generalize wr.heap.size=bt at*;have p0:=A0a HT4.out 0 rfl;have p1:=A0a HT4.out 1 rfl;have p2:=A0a HT4.out 2 rfl;dsimp at p0 p1 p2
  go_wp2_with fail
  have hb5:Below W4.heap.size W4 (W4.alloc (.cells #[.int .i64 fr,.int .i64 tt,.int .i64 pl] 3)):=A0f _ _
  refine(C4i _ g a n cap L _ _ 3 3 [fr,tt,pl] (HL4.out.below hb5) (Sl.litZ W4 3 [fr,tt,pl] 3 rfl) (B1t.new (Ne.symm (Nat.ne_of_lt HL4.out.lt)).symm) (by decide)).mono ?_;rintro e w6 ⟨rfl,h6,k6⟩
  have hk6:=(A1e.of (g:=g) hb5).trans k6;have HL6:=hzz h6;have HB6:=hzz (HB4.out.keep1 hk6 hbg);have HK6:=hzz (HK4.out.trans hk6);have HT6:=hzz (hk6.blk HT4.out htg)
  clear h6 k6 hk6 hb5 HL4 HB4 HK4 HT4 p0 p1 p2;have p3:=A0a HT6.out 3 rfl;dsimp at p3;by_cases h0:cl=0
  ·have e0:(cl !=0)=false:=by simp[h0]
   have HF2:=hzz (show(decide (cl=0)||clsOk L cl)=true by simp[h0]);clear h0
   go_wp2_with fail
   go_roundg (tn-(j+1))
   case measure=>omega
   exact⟨j+1,by omega,rfl,by go_num,hzz (by rw[HA.out,HF2.out,Bool.not_true,Bool.or_false];exact HL6.out),HB6,HK6⟩
  have e0:(cl !=0)=true:=by simp[h0]
  have HF2:=hzz (show(decide (cl=0)||clsOk L cl)=clsOk L cl by simp[h0]);clear h0
  go_wp2_with fail
  refine(A9s w6 g a n cap L _ cl HL6.out).mono ?_;rintro e w7 ⟨rfl,h7,k7⟩
  go_wp2_with fail
  go_roundg (tn-(j+1))
  case measure=>omega
  exact⟨j+1,by omega,rfl,by go_num,hzz (by rw[HA.out,HF2.out];exact h7),hzz (HB6.out.keep1 k7 hbg),hzz (HK6.out.trans k7)⟩
 obtain rfl:j=tn:=by omega
 have HEX:=hzz (show traps.take j=traps by rw[List.take_of_length_le (by rw[HTn.out];exact Nat.le_refl _)]);rw[HEX.out]at HL;generalize(od3|| !traps.all (A7b L))=od4 at*
 obtain⟨c0,c1,c2,c3,c4,c5,c6,c7⟩:=HB2.out.box
 go_wp2_with fail
 clear c0 c1 c2 c3 c4 c5 c6 c7
 go_loopg [87] mn (fun gn iv wr=>∃i:Nat,i<=mn/\gn=mn-i/\iv= .int .i64 i/\Hid (LkS wr g a n cap L (od4|| !(maps.take i).all (A8i L)))/\Hid (MBk wr bm fl nm ds st lo ca cn cc ta j tc ma mn mc)/\Hid (A1e g w wr))
 case atStart=>exact⟨0,by omega,by omega,by go_num,hzz (by simpa using HL.out),HB2,HK2⟩
 clear HL HB2 HK2;obtain⟨i,hi,rfl,rfl,HL,HB2,HK2⟩:=hrel;by_cases hli:i<mn
 ·obtain⟨b,off,p,rfl,_,hv,q⟩:=(HP.out.below (HK2.out.below HW.out nlz HWg.out)).getC i hli
  have HA:=hzz (show(od4|| !(maps.take (i+1)).all (A8i L))=((((od4|| !(maps.take i).all (A8i L))|| ![p.pl].all A5i)|| !A8b L 64 p.loc)|| !A8b L 64 p.stk) by rw[A9t _ _ _ _ hv,A2b];unfold A8i;rw[A2b,A2b];simp)
  have HR:=hzz (HE.out p (List.mem_of_getElem? hv));have hpq:=HQ.out p (List.mem_of_getElem? hv);obtain⟨pl,la,ln,lc,loc,sa,sn,sc,stk⟩:=p;dsimp only at HA hpq;obtain⟨hpl,hps⟩:=hpq
  have HRL:=hzz (show Ss 2 KS.cells W0 la ln loc from HR.out.loc);have HRS:=hzz (show Ss 2 KS.cells W0 sa sn stk from HR.out.stk)
  have q0:wr.cell? ⟨b,off+i*3,none⟩=some (.int .i64 pl):=q 0 (by omega);have q1:wr.cell? ⟨b,off+i*3+1,none⟩=some (.slice la ln lc):=q 1 (by omega)
  have q2:wr.cell? ⟨b,off+i*3+2,none⟩=some (.slice sa sn sc):=q 2 (by omega);clear q hv HR;generalize(od4|| !(maps.take i).all (A8i L))=od at*;have hi1:(i:Int)<mn:=by omega
  have hb:Below wr.heap.size wr (wr.alloc (.cells #[.int .i64 pl,.slice la ln lc,.slice sa sn sc] 68)):=A0f _ _;have HL4:=hzz (HL.out.below hb);have HB4:=hzz (HB2.out.keep1 (A1e.of hb) hbg)
  have HK4:=hzz (HK2.out.trans (A1e.of hb));have HT4:=hzz (heap_alloc_last wr (.cells #[.int .i64 pl,.slice la ln lc,.slice sa sn sc] 68));have htg:wr.heap.size≠g:=by have:=HL.out.lt;omega
  clear hb HL HB2 HK2
  go_upto_region 14 with fail
  clear q0 q1 q2;generalize wr.alloc _=W4 at*;generalize wr.heap.size=bt at*;have p0:=A0a HT4.out 0 rfl;dsimp at p0
  go_wp2_with fail
  have hb5:Below W4.heap.size W4 (W4.alloc (.cells #[.int .i64 pl] 3)):=A0f _ _
  refine(C4i _ g a n cap L _ _ 1 1 [pl] (HL4.out.below hb5) (Sl.litZ W4 1 [pl] 3 rfl) (B1t.new (Ne.symm (Nat.ne_of_lt HL4.out.lt)).symm) (by decide)).mono ?_;rintro e w6 ⟨rfl,h6,k6⟩
  have hk6:=(A1e.of (g:=g) hb5).trans k6;have HL6:=hzz h6;have HB6:=hzz (HB4.out.keep1 hk6 hbg);have HK6:=hzz (HK4.out.trans hk6);have HT6:=hzz (hk6.blk HT4.out htg)
  clear h6 k6 hk6 hb5 HL4 HB4 HK4 HT4 p0;have p1:=A0a HT6.out 1 rfl;dsimp at p1;have HW6:=hzz (HK6.out.below HW.out nlz HWg.out)
  go_wp2_with fail
  refine(B6g w6 g a n cap L _ la ln lc loc 64 HL6.out (HRL.out.below HW6.out) (B1t.oldS HRL.out HWg.out) hpl).mono ?_;rintro e w7 ⟨rfl,h7,k7⟩;have HL7:=hzz h7;have HB7:=hzz (HB6.out.keep1 k7 hbg)
  have HK7:=hzz (HK6.out.trans k7);have HT7:=hzz (k7.blk HT6.out htg);clear h7 k7 HL6 HB6 HK6 HT6 HW6 p1;have p2:=A0a HT7.out 2 rfl;dsimp at p2;have HW7:=hzz (HK7.out.below HW.out nlz HWg.out)
  go_wp2_with fail
  refine(B6g w7 g a n cap L _ sa sn sc stk 64 HL7.out (HRS.out.below HW7.out) (B1t.oldS HRS.out HWg.out) hps).mono ?_;rintro e w8 ⟨rfl,h8,k8⟩
  go_wp2_with fail
  go_roundg (mn-(i+1))
  case measure=>omega
  exact⟨i+1,by omega,rfl,by go_num,hzz (by rw[HA.out];exact h8),hzz (HB7.out.keep1 k8 hbg),hzz (HK7.out.trans k8)⟩
 obtain rfl:i=mn:=by omega
 have HEX:=hzz (show maps.take i=maps by rw[List.take_of_length_le (by rw[HPn.out];exact Nat.le_refl _)]);rw[HEX.out]at HL;generalize(od4|| !maps.all (A8i L))=od5 at*
 have HNM:=hzz (show nmB=(decide (0<A7t L [67,111,100,101])&&(((i:Int)==0)||decide (0<A7t L [83,116,97,99,107,77,97,112])))from by rw[HNM.out];simp only[A6z,B4t,Int.natCast_pos])
 generalize A7t L [67,111,100,101]=f1 at*;generalize A7t L [83,116,97,99,107,77,97,112]=f2 at*;obtain⟨c0,c1,c2,c3,c4,c5,c6,c7⟩:=HB2.out.box
 obtain⟨k0,k1,fr0,fr1,lt0⟩:=HL.out.k.box
 go_wp2_with fail
 refine(HFA.out wr HL.out.ks).mono ?_;rintro e w8 ⟨rfl,hb8⟩;have HL8:=hzz (HL.out.below hb8);have HK8:=hzz (HK2.out.trans (A1e.of hb8));have HB8:=hzz (HB2.out.keep1 (A1e.of hb8) hbg)
 clear c0 c1 c2 c3 c4 c5 c6 c7 k0 k1 fr0 fr1 lt0 hb8 HL HB2 HK2;obtain⟨c0,c1,c2,c3,c4,c5,c6,c7⟩:=HB8.out.box;obtain⟨k0,k1,fr0,fr1,lt0⟩:=HL8.out.k.box;by_cases g1:0<f1
 ·have e1:=decide_eq_true g1;clear g1;by_cases g2:i=0
  ·have e2:((i:Int)==0)=true:=by simp[g2]
   clear g2;have HLZ:=HL8;have HKZ:=HK8
   go_wp2_with fail
   refine(A1s _ g a n cap L _ true HLZ.out).mono ?_;rintro e w9 ⟨rfl,h9,k9⟩
   go_wp2_with fail
   go_end0
   exact⟨rfl,by rw[show nmB=true by rw[HNM.out];simp only[e1,e2,Bool.and_true,Bool.true_and,Bool.false_and,Bool.or_true,Bool.true_or,Bool.or_false,Bool.false_or,Bool.and_false]];exact h9,HKZ.out.trans k9⟩
  have e2:((i:Int)==0)=false:=by simp[g2]
  clear g2
  go_wp2_with fail
  refine(HFB.out w8 HL8.out.ks).mono ?_;rintro e wz ⟨rfl,hbz⟩;have HLZ:=hzz (HL8.out.below hbz);have HKZ:=hzz (HK8.out.trans (A1e.of hbz));clear hbz;by_cases g3:0<f2
  ·have e3:=decide_eq_true g3;clear g3
   go_wp2_with fail
   refine(A1s _ g a n cap L _ true HLZ.out).mono ?_;rintro e w9 ⟨rfl,h9,k9⟩
   go_wp2_with fail
   go_end0
   exact⟨rfl,by rw[show nmB=true by rw[HNM.out];simp only[e1,e2,e3,Bool.and_true,Bool.true_and,Bool.false_and,Bool.or_true,Bool.true_or,Bool.or_false,Bool.false_or,Bool.and_false]];exact h9,HKZ.out.trans k9⟩
  have e3:=decide_eq_false g3;clear g3
  go_wp2_with fail
  refine(A1s _ g a n cap L _ false HLZ.out).mono ?_;rintro e w9 ⟨rfl,h9,k9⟩
  go_wp2_with fail
  go_end0
  exact⟨rfl,by rw[show nmB=false by rw[HNM.out];simp only[e1,e2,e3,Bool.and_true,Bool.true_and,Bool.false_and,Bool.or_true,Bool.true_or,Bool.or_false,Bool.false_or,Bool.and_false]];exact h9,HKZ.out.trans k9⟩
 have e1:=decide_eq_false g1;clear g1;have HLZ:=HL8;have HKZ:=HK8
 go_wp2_with fail
 refine(A1s _ g a n cap L _ false HLZ.out).mono ?_;rintro e w9 ⟨rfl,h9,k9⟩
 go_wp2_with fail
 go_end0
 exact⟨rfl,by rw[show nmB=false by rw[HNM.out];simp only[e1,Bool.and_true,Bool.true_and,Bool.false_and,Bool.or_true,Bool.true_or,Bool.or_false,Bool.false_or,Bool.and_false]];exact h9,HKZ.out.trans k9⟩
structure KP.Fit(p:KP):Prop where
 ln:p.ln<=1000000000
 sn:p.sn<=1000000000
structure KM.Fit(m:KM):Prop where
 fl:A9r m.fl
 cn:m.cn<=maxLen
 tn:m.tn<=1000000000000
 mn:m.mn<=1000000000000
 each:∀p∈m.maps,p.Fit
structure KF.Fit(f:KF):Prop where
 pn:f.pn<=65536
 ps:∀i:Nat,i<f.pn->(kAt f.pool i).s.length<=65536
 fn:f.fn<=1000000000000
 mn:f.mn<=1000000000000
 fl:∀d∈f.fields,A9r d.fl
 each:∀m∈f.methods,m.Fit
def B0t(f:KF)(w:World)(e:Ending)(w':World):Prop:=e= .returned (.int .i64 (if A2r f then 0 else 8))/\Below w.heap.size w w'
theorem C1f(f:KF)(hp:A6f f.pool=true):(!A2r f)=(((((false|| !clsOk f.pool f.th)|| !(decide (f.su=0)||clsOk f.pool f.su))|| !decide (f.fields.length<=64/\f.methods.length<=64))|| !f.fields.all (fun d=>A4f f.pool d.fl d.nm d.ds))|| !f.methods.all (A3z f.pool)):=by
 have h:(!A2r f)=(false|| !A2r f):=by simp
 rw[h];unfold A2r;rw[hp,A2b,A2b,A2b,A2b,A2b];simp
theorem B5m(w:World)(f:KF)(h:f.Rd w)(hfit:f.Fit):
  Calls Tryz.prog 19 #[.agg #[.slice f.pa f.pn f.pc,.int .i64 f.th,.int .i64 f.su,.slice f.fa f.fn f.fc,.slice f.ma f.mn f.mc]] w (B0t f w):=by
 unfold B0t;have HCH:=hzz (C1f f);have HCN:=hzz (show A6f f.pool=false->A2r f=false from fun h=>by unfold A2r;rw[h];rfl)
 obtain⟨pa,pn,pc,pool,th,su,fa,fn,fc,fields,ma,mn,mc,methods⟩:=f;dsimp only at HCH HCN⊢;have HPK:=hzz (show Ks w pa pn pool from h.pool);have hpn:pn<=65536:=hfit.pn
 have hfn:fn<=1000000000000:=hfit.fn;have hmn:mn<=1000000000000:=hfit.mn;have HPS:=hzz (show ∀i:Nat,i<pn->(kAt pool i).s.length<=65536 from hfit.ps)
 have HFD:=hzz (show Ss 3 KD.cells w fa fn fields from h.fields);have HMD:=hzz (show Ss 8 KM.cells w ma mn methods from h.methods);have HE:=hzz (show ∀m∈methods,m.Rd w from h.each)
 have HFL:=hzz (show ∀d∈fields,A9r d.fl from hfit.fl);have HFM:=hzz (show ∀m∈methods,m.Fit from hfit.each);have HFn:=hzz (show fields.length=fn from h.fields.1)
 have HMn:=hzz (show methods.length=mn from h.methods.1)
 have HSZ:=hzz (show decide (fields.length<=64/\methods.length<=64)=(decide ((fn:Int)<=64)&&decide ((mn:Int)<=64))from by
  rw[HFn.out,HMn.out,<-Bool.decide_and];exact decide_eq_decide.2 (by omega))
 generalize decide (fields.length<=64/\methods.length<=64)=szB at*;generalize A2r ⟨pa,pn,pc,pool,th,su,fa,fn,fc,fields,ma,mn,mc,methods⟩=R at*;clear h hfit
 obtain⟨r,hr⟩:∃r:Int,r=if R then 0 else 8:=⟨_,rfl⟩
 rw[<-hr];have HRV:=hzz hr;clear hr;have hal:Below w.heap.size w (w.alloc (.cells #[.slice pa pn pc,.int .i64 th,.int .i64 su,.slice fa fn fc,.slice ma mn mc] 26)):=A0f _ _
 have HB0:=hzz (heap_alloc_last w (.cells #[.slice pa pn pc,.int .i64 th,.int .i64 su,.slice fa fn fc,.slice ma mn mc] 26))
 have HCP:=hzz (D1f (w.alloc (.cells #[.slice pa pn pc,.int .i64 th,.int .i64 su,.slice fa fn fc,.slice ma mn mc] 26)) pa pn pc pool (HPK.out.below hal) hpn HPS.out);unfold C4e at HCP
 have HK0:=hzz hal;clear hal;go_enter Tryz.func19,Tryz.ntmps19
 go_upto_region 1 with fail
 generalize w.alloc _=W0 at*;have c0:=A0a HB0.out 0 rfl;dsimp at c0
 cases hp:A6f pool
 ·have HN:=hzz (HCN.out hp);rw[hp]at HCP;simp only[Bool.false_eq_true,if_false]at HCP;clear HCH hp
  go_wp2_with fail
  refine HCP.out.mono ?_;rintro e w1 ⟨rfl,hb1⟩;have HB1:=btz HK0 hb1;clear hb1
  go_wp2_with fail
  go_ret;exact⟨by rw[HRV.out,HN.out];rfl,HB1.out⟩
 have HCH:=hzz (HCH.out hp);rw[hp]at HCP;simp only[if_true]at HCP;clear HCN hp
 go_wp2_with fail
 refine HCP.out.mono ?_;rintro e w1 ⟨rfl,hb1⟩;have HB1:=hzz (A0e HB0.out hb1);have HK1:=btz HK0 hb1;clear hb1 HCP HB0 HK0 c0;have c0:=A0a HB1.out 0 rfl;have c1:=A0a HB1.out 1 rfl
 dsimp at c0 c1
 go_upto_region 4 with fail
 have hal:Below w1.heap.size w1 (w1.alloc (.cells #[.slice pa pn pc,.bool false] 106)):=A0f _ _
 have HL:=hzz (show LkS (w1.alloc (.cells #[.slice pa pn pc,.bool false] 106)) w1.heap.size pa pn pc pool false from
  ⟨heap_alloc_last w1 _,(HPK.out.below (by exact HK1.out)).below hal,hpn,B1t.oldS (HPK.out.below (by exact HK1.out)) nlz⟩)
 have HB:=hzz (A0e HB1.out hal);have hbg:w.heap.size≠w1.heap.size:=Nat.ne_of_lt (A0r HB1.out);have HWg:=hzz (show w.heap.size<=w1.heap.size by exact HK1.out.size)
 have HW2:=hzz (show Below w.heap.size w (w1.alloc (.cells #[.slice pa pn pc,.bool false] 106)) by exact HK1.out.trans (hal.mono HK1.out.size));clear hal c0 c1 HB1 HK1;generalize w1.alloc _=W2 at*
 generalize w1.heap.size=g at*;have HK:=hzz (A1e.refl g W2);have c1:=A0a HB.out 1 rfl;dsimp at c1
 go_wp2_with fail
 refine(A9s W2 g pa pn pc pool false th HL.out).mono ?_;rintro e w3 ⟨rfl,h3,k3⟩;have HL3:=hzz h3;have HB3:=hzz (k3.blk HB.out hbg);have HK3:=hzz (HK.out.trans k3)
 generalize(false|| !clsOk pool th)=od1 at*;clear h3 k3 c1 HL HB HK;have c2:=A0a HB3.out 2 rfl;dsimp at c2
 go_upto_if 22 with fail
 go_cut [] (fun wx=>Hid (LkS wx g pa pn pc pool (od1|| !(decide (su=0)||clsOk pool su)))/\Hid (wx.heap[w.heap.size]? =some (.cells #[.slice pa pn pc,.int .i64 th,.int .i64 su,.slice fa fn fc,.slice ma mn mc] 26))/\Hid (A1e g W2 wx))
 case first=>
  by_cases h0:su=0
  ·have e0:(su !=0)=false:=by simp[h0]
   have HS:=hzz (show(decide (su=0)||clsOk pool su)=true by simp[h0]);clear h0
   go_wp2_with fail
   go_meet;exact⟨hzz (by rw[HS.out,Bool.not_true,Bool.or_false];exact HL3.out),HB3,HK3⟩
  have e0:(su !=0)=true:=by simp[h0]
  have HS:=hzz (show(decide (su=0)||clsOk pool su)=clsOk pool su by simp[h0]);clear h0
  go_wp2_with fail
  refine(A9s w3 g pa pn pc pool _ su HL3.out).mono ?_;rintro e w4 ⟨rfl,h4,k4⟩
  go_wp2_with fail
  go_meet;exact⟨hzz (by rw[HS.out];exact h4),hzz (k4.blk HB3.out hbg),hzz (HK3.out.trans k4)⟩
 clear c2 HL3 HB3 HK3;obtain⟨HL,HB,HK⟩:=hcut;generalize(od1|| !(decide (su=0)||clsOk pool su))=od2 at*;have c3:=A0a HB.out 3 rfl;have c4:=A0a HB.out 4 rfl;dsimp at c3 c4
 go_upto_region 7 with fail
 go_cut [38] (fun r wx=>Hid (LkS wx g pa pn pc pool (od2|| !szB))/\Hid (wx.heap[w.heap.size]? =some (.cells #[.slice pa pn pc,.int .i64 th,.int .i64 su,.slice fa fn fc,.slice ma mn mc] 26))/\Hid (A1e g W2 wx))
 case first=>
  by_cases h0:(fn:Int)<=64
  ·have e0:=decide_eq_true h0;by_cases h1:(mn:Int)<=64
   ·have e1:=decide_eq_true h1;clear h0 h1
    go_wp2_with fail
    refine(A1s _ g pa pn pc pool _ true HL.out).mono ?_;rintro e w3 ⟨rfl,h3,k3⟩
    go_wp2_with fail
    go_meet;refine⟨hzz ?_,hzz (k3.blk HB.out hbg),hzz (HK.out.trans k3)⟩;rw[show szB=true by rw[HSZ.out];simp only[e0,e1,Bool.and_true,Bool.true_and,Bool.false_and,Bool.and_false]];exact h3
   have e1:=decide_eq_false h1;clear h0 h1
   go_wp2_with fail
   refine(A1s _ g pa pn pc pool _ false HL.out).mono ?_;rintro e w3 ⟨rfl,h3,k3⟩
   go_wp2_with fail
   go_meet;refine⟨hzz ?_,hzz (k3.blk HB.out hbg),hzz (HK.out.trans k3)⟩;rw[show szB=false by rw[HSZ.out];simp only[e0,e1,Bool.and_true,Bool.true_and,Bool.false_and,Bool.and_false]];exact h3
  have e0:=decide_eq_false h0;clear h0
  go_wp2_with fail
  refine(A1s _ g pa pn pc pool _ false HL.out).mono ?_;rintro e w3 ⟨rfl,h3,k3⟩
  go_wp2_with fail
  go_meet;refine⟨hzz ?_,hzz (k3.blk HB.out hbg),hzz (HK.out.trans k3)⟩;rw[show szB=false by rw[HSZ.out];simp only[e0,Bool.and_true,Bool.true_and,Bool.false_and,Bool.and_false]];exact h3
 clear c3 c4 HL HB HK;obtain⟨HL,HB,HK⟩:=hcut;generalize(od2|| !szB)=od3 at*;have c3:=A0a HB.out 3 rfl;dsimp at c3
 go_wp2_with fail
 clear c3
 go_loopg [42] fn (fun gn iv wr=>∃j:Nat,j<=fn/\gn=fn-j/\iv= .int .i64 j/\Hid (LkS wr g pa pn pc pool (od3|| !(fields.take j).all (fun d=>A4f pool d.fl d.nm d.ds)))/\Hid (wr.heap[w.heap.size]? =some (.cells #[.slice pa pn pc,.int .i64 th,.int .i64 su,.slice fa fn fc,.slice ma mn mc] 26))/\Hid (A1e g W2 wr))
 case atStart=>exact⟨0,by omega,by omega,by go_num,hzz (by simpa using HL.out),HB,HK⟩
 clear HL HB HK;obtain⟨j,hj,rfl,rfl,HL,HB,HK⟩:=hrel;by_cases hlt:j<fn
 ·obtain⟨b,off,d,rfl,_,hv,q⟩:=(HFD.out.below (HK.out.below HW2.out nlz HWg.out)).getC j hlt
  have HA:=hzz (show(od3|| !(fields.take (j+1)).all (fun d=>A4f pool d.fl d.nm d.ds))=((od3|| !(fields.take j).all (fun d=>A4f pool d.fl d.nm d.ds))|| !A4f pool d.fl d.nm d.ds) by rw[A9t _ _ _ _ hv,A2b])
  have HFI:=hzz (HFL.out d (List.mem_of_getElem? hv));obtain⟨fl,nm,ds⟩:=d;dsimp only at HA HFI;have q0:wr.cell? ⟨b,off+j*3,none⟩=some (.int .i64 fl):=q 0 (by omega)
  have q1:wr.cell? ⟨b,off+j*3+1,none⟩=some (.int .i64 nm):=q 1 (by omega);have q2:wr.cell? ⟨b,off+j*3+2,none⟩=some (.int .i64 ds):=q 2 (by omega);clear q hv
  generalize(od3|| !(fields.take j).all (fun d=>A4f pool d.fl d.nm d.ds))=od at*;have hj1:(j:Int)<fn:=by omega
  have hb:Below wr.heap.size wr (wr.alloc (.cells #[.int .i64 fl,.int .i64 nm,.int .i64 ds] 75)):=A0f _ _;have HL4:=hzz (HL.out.below hb);have HB4:=hzz (A0e HB.out hb)
  have HK4:=hzz (HK.out.trans (A1e.of hb));have HT4:=hzz (heap_alloc_last wr (.cells #[.int .i64 fl,.int .i64 nm,.int .i64 ds] 75));clear hb HL HB HK
  go_upto_region 11 with fail
  clear q0 q1 q2;generalize wr.alloc _=W4 at*;generalize wr.heap.size=bt at*;have p0:=A0a HT4.out 0 rfl;have p1:=A0a HT4.out 1 rfl;have p2:=A0a HT4.out 2 rfl;dsimp at p0 p1 p2
  go_wp2_with fail
  refine(B3j W4 g pa pn pc pool _ fl nm ds HL4.out HFI.out).mono ?_;rintro e w6 ⟨rfl,h6,k6⟩
  go_wp2_with fail
  go_roundg (fn-(j+1))
  case measure=>omega
  exact⟨j+1,by omega,rfl,by go_num,hzz (by rw[HA.out];exact h6),hzz (k6.blk HB4.out hbg),hzz (HK4.out.trans k6)⟩
 obtain rfl:j=fn:=by omega
 have HEX:=hzz (show fields.take j=fields by rw[List.take_of_length_le (by rw[HFn.out];exact Nat.le_refl _)]);rw[HEX.out]at HL;generalize(od3|| !fields.all (fun d=>A4f pool d.fl d.nm d.ds))=od4 at*
 have c4:=A0a HB.out 4 rfl;dsimp at c4
 go_wp2_with fail
 clear c4
 go_loopg [58] mn (fun gn iv wr=>∃i:Nat,i<=mn/\gn=mn-i/\iv= .int .i64 i/\Hid (LkS wr g pa pn pc pool (od4|| !(methods.take i).all (A3z pool)))/\Hid (A1e g W2 wr))
 case atStart=>exact⟨0,by omega,by omega,by go_num,hzz (by simpa using HL.out),HK⟩
 clear HL HB HK;obtain⟨i,hi,rfl,rfl,HL,HK⟩:=hrel;by_cases hli:i<mn
 ·have HWR:=hzz (HK.out.below HW2.out nlz HWg.out);obtain⟨b,off,m,rfl,_,hv,q⟩:=(HMD.out.below HWR.out).getC i hli
  have HA:=hzz (show(od4|| !(methods.take (i+1)).all (A3z pool))=((od4|| !(methods.take i).all (A3z pool))|| !A3z pool m) by rw[A9t _ _ _ _ hv,A2b])
  have hR:=HE.out m (List.mem_of_getElem? hv);have hF:=HFM.out m (List.mem_of_getElem? hv)
  have HCM:=hzz (fun(W:World) od (h1:LkS W g pa pn pc pool od) (h2:Below w.heap.size w W)=>C2k w W g pa pn pc pool od m h1 hR h2 HWg.out hF.fl hF.cn hF.tn hF.mn (fun p hp=>⟨(hF.each p hp).ln,(hF.each p hp).sn⟩))
  clear hR hF;obtain⟨fl,nm,ds,st,lo,ca,cn,cc,code,ta,tn,tc,traps,na,nn,nc,maps⟩:=m;dsimp only at HCM
  generalize A3z pool ⟨fl,nm,ds,st,lo,ca,cn,cc,code,ta,tn,tc,traps,na,nn,nc,maps⟩=ok at*;have q0:wr.cell? ⟨b,off+i*8,none⟩=some (.int .i64 fl):=q 0 (by omega)
  have q1:wr.cell? ⟨b,off+i*8+1,none⟩=some (.int .i64 nm):=q 1 (by omega);have q2:wr.cell? ⟨b,off+i*8+2,none⟩=some (.int .i64 ds):=q 2 (by omega)
  have q3:wr.cell? ⟨b,off+i*8+3,none⟩=some (.int .i64 st):=q 3 (by omega);have q4:wr.cell? ⟨b,off+i*8+4,none⟩=some (.int .i64 lo):=q 4 (by omega)
  have q5:wr.cell? ⟨b,off+i*8+5,none⟩=some (.slice ca cn cc):=q 5 (by omega);have q6:wr.cell? ⟨b,off+i*8+6,none⟩=some (.slice ta tn tc):=q 6 (by omega)
  have q7:wr.cell? ⟨b,off+i*8+7,none⟩=some (.slice na nn nc):=q 7 (by omega);clear q hv;generalize(od4|| !(methods.take i).all (A3z pool))=od at*;have hi1:(i:Int)<mn:=by omega
  have hb:Below wr.heap.size wr (wr.alloc (.cells #[.int .i64 fl,.int .i64 nm,.int .i64 ds,.int .i64 st,.int .i64 lo,.slice ca cn cc,.slice ta tn tc,.slice na nn nc] 65)):=A0f _ _
  have HL4:=hzz (HL.out.below hb);have HK4:=hzz (HK.out.trans (A1e.of hb))
  have HT4:=hzz (heap_alloc_last wr (.cells #[.int .i64 fl,.int .i64 nm,.int .i64 ds,.int .i64 st,.int .i64 lo,.slice ca cn cc,.slice ta tn tc,.slice na nn nc] 65));have HW4:=btz HWR hb
  clear hb HL HK HWR
  go_upto_region 16 with fail
  clear q0 q1 q2 q3 q4 q5 q6 q7;generalize wr.alloc _=W4 at*;generalize wr.heap.size=bt at*;have p0:=A0a HT4.out 0 rfl;have p1:=A0a HT4.out 1 rfl;have p2:=A0a HT4.out 2 rfl
  have p3:=A0a HT4.out 3 rfl;have p4:=A0a HT4.out 4 rfl;have p5:=A0a HT4.out 5 rfl;have p6:=A0a HT4.out 6 rfl;have p7:=A0a HT4.out 7 rfl;dsimp at p0 p1 p2 p3 p4 p5 p6 p7
  go_wp2_with fail
  refine(HCM.out W4 _ HL4.out HW4.out).mono ?_;rintro e w6 ⟨rfl,h6,k6⟩
  go_wp2_with fail
  go_roundg (mn-(i+1))
  case measure=>omega
  exact⟨i+1,by omega,rfl,by go_num,hzz (by rw[HA.out];exact h6),hzz (HK4.out.trans k6)⟩
 obtain rfl:i=mn:=by omega
 have HEY:=hzz (show methods.take i=methods by rw[List.take_of_length_le (by rw[HMn.out];exact Nat.le_refl _)]);rw[HEY.out]at HL;generalize(od4|| !methods.all (A3z pool))=od5 at*
 have HBZ:=hzz (HK.out.below HW2.out nlz HWg.out);obtain⟨k0,k1,fr0,fr1,lt0⟩:=HL.out.k.box
 cases od5
 ·have HRZ:=hzz (show r=0 by have h1:=HCH.out;rw[HRV.out];cases R<;>simp at h1⊢)
  go_wp2_with fail
  go_ret;exact⟨by rw[HRZ.out];rfl,HBZ.out⟩
 have HRZ:=hzz (show r=8 by have h1:=HCH.out;rw[HRV.out];cases R<;>simp at h1⊢)
 go_wp2_with fail
 go_ret;exact⟨by rw[HRZ.out];rfl,HBZ.out⟩
def EqW(x y:World):Prop:=y=x
theorem A8r{P:Program}{ρ:Operand->Value}{o:Oper}{op:BinOp}{t:TypeId}{x y:Operand}{ty:TypeId}(ho:o.op= .binOp op t x y ty){v:Value}{w:World}
  (h:((eqGuard op t x y (ρ x) (ρ y)).run P w).andThen (fun _ w'=>(binOp op t (ρ x) (ρ y)).run P w')= .ok v w):(execOp ρ o).run P w= .ok (.value v) w:=by
 unfold execOp;simp only[ho,Sem.run_bind,Sem.run_pure];rw[h];rfl
theorem A5q{e:TypeId}{d:TypeDesc}(h1:Tryz.prog.underlying e=some d)(h2:(match d with| .struct _| .array _ _=>false|_=>true)=true)(w:World)(cs:Array Value)(i:Nat)(v:Value)(h3:cs[i]? =some v):(part e cs i).run Tryz.prog w= .ok v w:=by
 cases d<;>simp[part,isAgg,run_underlying h1,h3]at h2⊢
theorem A1a{W u:World}{a:Addr}{v:Value}(h:EqW W.drew u)(hc:W.cell? a=some v):u.cell? a=some v:=by rw[show u=W.drew from h];exact hc
theorem D4n{α β:Type}{f:α->β}{l m:List α}(h:l.map f=m.map f){j:Nat}{x y:α}(hx:l[j]? =some x)(hy:m[j]? =some y):f x=f y:=by
 have e:(l.map f)[j]? =(m.map f)[j]? :=by rw[h]
 rw[List.getElem?_map,List.getElem?_map,hx,hy]at e;simpa using e
end
end Go.Proofs.YtclpkipaehpkdaaGreatDoor
