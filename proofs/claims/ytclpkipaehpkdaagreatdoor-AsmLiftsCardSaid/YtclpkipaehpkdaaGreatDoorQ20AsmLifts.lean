/- asm: own texts, merged (wip/merge3.py). No condition. -/
import Derived.Test.YtclpkipaehpkdaaGreatDoorQ19AsmLifts
import Derived.Laws.StructEq
import Derived.Test.YtclpkipaehpkdaaGreatDoorQ18AsmLifts
set_option linter.unusedVariables false
set_option linter.unusedSimpArgs false
set_option maxRecDepth 100000
set_option maxHeartbeats 64000000
namespace Go.Proofs.YtclpkipaehpkdaaGreatDoor
section
open Go.ChangeShapes Go.WideShapes Go.ChangeAt Go.RowKit
theorem D0q{L:List RW}{r:RW}{p:Int}(hr:r∈L)(h:r.pos=p):thereB L p=true:=by
 unfold thereB;rw[List.any_eq_true];exact⟨r,hr,by simp[h]⟩
theorem D2n{L:List RW}{p:Int}(h:∀(k:Nat) r,L[k]? =some r→r.pos≠p):thereB L p=false:=by
 unfold thereB;rw[List.any_eq_false];intro r hr;obtain⟨k,hk,rfl⟩:=List.getElem_of_mem hr;simpa using h k _ (List.getElem?_eq_getElem hk)
theorem D1j(w:World)(a:Option Addr)(n cap:Nat)(L:List RW)(p:Int)(hs:Rs w a n L)(hn:n≤65536):Calls Tryz.prog 152 #[.slice a n cap,.int .i64 p] w (B0f (.bool (thereB L p)) w):=by
 have HS:=Lib.hid hs;have HLn:=Lib.hid hs.1;clear hs;go_enter Tryz.func152,Tryz.ntmps152
 go_wp2_with fail
 go_loopg [9] n (fun gn i wr=>∃j:Nat,j≤n∧gn=n-j∧i= .int .i64 j∧Hid (∀(k:Nat) r,k<j→L[k]? =some r→r.pos≠p)∧Hid (Below w.heap.size w wr))
 case atStart=>exact⟨0,by omega,by omega,by go_num,Lib.hid (fun k r h=>by omega),Lib.hid (Below.refl _ _)⟩
 case round=>
  obtain⟨j,hj,rfl,rfl,HG,HB⟩:=hrel;by_cases hlt:j<n
  ·obtain⟨b,off,r,rfl,_,hr,q⟩:=(HS.out.below HB.out).at j hlt;obtain⟨q0,q1,q2,q3⟩:=q;have HYE:=Lib.hid (fun h=>D0q (p:=p) (List.mem_of_getElem? hr) h)
   have HNX:=Lib.hid (show r.pos≠p→∀(k:Nat) r,k<j+1→L[k]? =some r→r.pos≠p from fun h k r' hk hr'=>by
    rcases Nat.lt_or_ge k j with h1|h1
    ·exact HG.out k r' h1 hr'
    ·obtain rfl:k=j:=by omega
     rw[hr]at hr'
     cases hr'
     exact h)
   have j1:(j:Int)<n:=by omega
   obtain⟨x,o,y,z⟩:=r;simp only at q0 q1 q2 q3 HYE HNX;clear hr;by_cases hx:x=p
   ·subst hx;have HR:=Lib.hid (HYE.out rfl);clear HYE HNX
    go_wp2_with fail
    go_ret;exact⟨by rw[HR.out];rfl,HB.out.alloc HB.out.size _⟩
   ·have ex:(x==p)=false:=by simp[hx]
    have HQ:=Lib.hid (HNX.out hx);clear hx HYE HNX
    go_wp2_with fail
    go_roundg (n-(j+1))
    case measure=>omega
    case rel=>exact⟨j+1,by omega,rfl,by go_num,HQ,Lib.hid (HB.out.alloc HB.out.size _)⟩
  ·obtain rfl:j=n:=by omega
   have HR:=Lib.hid (D2n (L:=L) (p:=p) (fun k r hk=>HG.out k r (by have:=(List.getElem?_eq_some_iff.1 hk).1;rw[HLn.out]at this;exact this) hk))
   go_wp2_with fail
   go_ret;exact⟨by rw[HR.out];rfl,HB.out⟩
theorem C3w(w:World)(a:Option Addr)(n cap:Nat)(L:List RW)(hs:Rs w a n L)(hn:n≤65536)(hw:∀r∈L,r.op<256):Calls Tryz.prog 115 #[.slice a n cap] w (B0f (.bool (A7y L)) w):=by
 have HS:=Lib.hid hs;have HLn:=Lib.hid hs.1;have HW:=Lib.hid hw;clear hs hw;go_enter Tryz.func115,Tryz.ntmps115
 go_wp2_with fail
 go_loopg [7] n (fun gn i wr=>∃j:Nat,j≤n∧gn=n-j∧i= .int .i64 j∧Hid (∀(k:Nat) r,k<j→L[k]? =some r→(!(A0q r.op==7)||thereB L r.a)=true)∧Hid (Below w.heap.size w wr))
 case atStart=>exact⟨0,by omega,by omega,by go_num,Lib.hid (fun k r h=>by omega),Lib.hid (Below.refl _ _)⟩
 case round=>
  obtain⟨j,hj,rfl,rfl,HG,HB⟩:=hrel;by_cases hlt:j<n
  ·obtain⟨b,off,r,rfl,_,hr,q⟩:=(HS.out.below HB.out).at j hlt;obtain⟨q0,q1,q2,q3⟩:=q;have hop:=HW.out r (List.mem_of_getElem? hr)
   have HBad:=Lib.hid (C5c (L:=L) (List.mem_of_getElem? hr))
   have HNx:=Lib.hid (show(!(A0q r.op==7)||thereB L r.a)=true→∀(k:Nat) r,k<j+1→L[k]? =some r→(!(A0q r.op==7)||thereB L r.a)=true from fun h k r' hk hr'=>by
    rcases Nat.lt_or_ge k j with h1|h1
    ·exact HG.out k r' h1 hr'
    ·obtain rfl:k=j:=by omega
     rw[hr]at hr'
     cases hr'
     exact h)
   have j1:(j:Int)<n:=by omega
   have HTH:=Lib.hid (fun w' (hb:Below w.heap.size w w')=>D1j w' (some ⟨b,off,none⟩) n cap L r.a (HS.out.below hb) hn);have HFM:=Lib.hid (fun w'=>A8k w' r.op hop)
   obtain⟨p,o,x,y⟩:=r;simp only at q0 q1 q2 q3 hop HBad HNx HTH HFM;have f9:=A4j o;generalize thereB L x=th at*;generalize A0q o=f at*;clear hr
   have HA:=Lib.hid (HB.out.alloc HB.out.size (.cells #[.int .i64 p,.int .u8 (o:Nat),.int .i64 x,.int .i64 y] 118));by_cases h7:f=7
   ·subst h7
    go_wp2_with fail
    refine(HFM.out _).mono ?_;rintro e w' ⟨rfl,rfl⟩
    go_wp2_with fail
    refine(HTH.out _ HA.out).mono ?_;rintro e w3 ⟨rfl,hb3⟩;have HB3:=Lib.hid (HA.out.trans (hb3.mono HA.out.size));clear hb3
    cases th
    ·have HR:=Lib.hid (HBad.out rfl)
     go_wp2_with fail
     go_ret;exact⟨by rw[HR.out];rfl,HB3.out⟩
    ·have HQ:=Lib.hid (HNx.out rfl)
     go_wp2_with fail
     go_roundg (n-(j+1))
     case measure=>omega
     case rel=>exact⟨j+1,by omega,rfl,by go_num,HQ,HB3⟩
   ·have e7:((f:Int)==7)=false:=by simp;omega
    have HQ:=Lib.hid (HNx.out (by simp[h7]));clear h7
    go_wp2_with fail
    refine(HFM.out _).mono ?_;rintro e w' ⟨rfl,rfl⟩
    go_wp2_with fail
    go_roundg (n-(j+1))
    case measure=>omega
    case rel=>exact⟨j+1,by omega,rfl,by go_num,HQ,HA⟩
  ·obtain rfl:j=n:=by omega
   have HR:=Lib.hid (B8r (L:=L) (fun k r hk=>HG.out k r (by have:=(List.getElem?_eq_some_iff.1 hk).1;rw[HLn.out]at this;exact this) hk))
   go_wp2_with fail
   go_ret;exact⟨by rw[HR.out];rfl,HB.out⟩
theorem B5u(w:World)(a:Option Addr)(n cap:Nat)(bs:List UInt8)(hs:Sl A5f w a n bs)(hn:n≤65536)(hcap:n≤cap):Calls Tryz.prog 65 #[.slice a n cap] w (A2e (A1g bs) w):=by
 have HS:=Lib.hid hs;have HLn:=Lib.hid hs.1;obtain⟨R,hR⟩:∃R,R=A1g bs:=⟨_,rfl⟩;rw[←hR];have HR:=Lib.hid hR;clear hs hR;by_cases h4:4096<n
 ·have HQ:=Lib.hid (show R=(9,[]) by rw[HR.out];exact B4j (by rw[HLn.out];exact h4));have e1:decide ((4096:Int)<n)=true:=by simp;omega
  go_enter Tryz.func65,Tryz.ntmps65
  go_wp2_with fail
  go_ret2;exact A2e.err HQ.out (Below.refl _ _)
 have e1:decide ((4096:Int)<n)=false:=by simp;omega
 have H4:=Lib.hid (show ¬4096<bs.length by rw[HLn.out];exact h4);go_enter Tryz.func65,Tryz.ntmps65
 go_wp2_with fail
 go_loopg [4,5] n (fun gn v i wr=>∃p fuel m:Nat,∃acc,p≤n∧gn=n-p∧i= .int .i64 p∧n<fuel+p∧m≤p∧Hid (wr.ownsRow w.heap.size 118 4 v m (acc.flatMap RW.cells))∧Hid (∀r∈acc,A3m r.pos∧A3m r.a∧r.op<256)∧
  Hid (Below w.heap.size w wr)∧Hid (A9b bs (bs.length+1) 0 []=A9b bs fuel p acc))
 case atStart=>exact⟨0,n+1,0,[],by omega,by omega,by go_num,by omega,by omega,Lib.hid (World.ownsRow_nil _ _ _ _),Lib.hid (fun r hr=>by cases hr),Lib.hid (Below.refl _ _),Lib.hid (by rw[HLn.out])⟩
 case round=>
  obtain⟨p,fuel,m,acc,hp,rfl,rfl,hf,hm,HO,HW,HB,HD⟩:=hrel;by_cases hlt:p<n
  ·obtain⟨fuel,rfl⟩:∃f,fuel=f+1:=⟨fuel-1,by omega⟩;obtain⟨b,off,rfl,hbl,hc⟩:=(HS.out.below HB.out).2 (by omega);have hpl:p<bs.length:=by rw[HLn.out];exact hlt
   have q0:=hc p hpl;have hop:bs[p].toNat=A3u bs p:=by unfold A3u;simp[List.getD,hpl]
   unfold A5f at q0;rw[hop]at q0;have hol:=C2j bs p;have hf9:=A4j (A3u bs p);have HLE:=Lib.hid (fun w'=>C5m w' (A3u bs p) hol)
   have HFM:=Lib.hid (fun w'=>A8k w' (A3u bs p) hol);have HNO:=Lib.hid (B2a bs fuel p acc hpl);have HSH:=Lib.hid (A9w bs fuel p acc hpl)
   have HBA:=Lib.hid (B3y bs fuel p acc hpl);have HNX:=Lib.hid (B1q bs fuel p acc hpl)
   have HRW:Hid (A7q bs p=⟨p,A3u bs p,A1s bs p (A0q (A3u bs p)),A2f bs p (A0q (A3u bs p))⟩):=Lib.hid rfl;have HWF:=Lib.hid (B7h bs p (by omega));rw[HRW.out]at HWF HNX
   have p1:(p:Int)<n:=by omega
   have o1:(A3u bs p:Int)<256:=by omega
   rw[HLn.out]at HSH HBA HNX;clear hc hop hpl;generalize A0q (A3u bs p)=f at*;generalize A3u bs p=o at*;have HNE:=Lib.hid (C1d HO.out)
   go_upto_region 7 with fail
   have HAL:=Lib.hid (HB.out.alloc HB.out.size (.cells #[.int .i64 p,.int .u8 (o:Nat),.int .i64 0,.int .i64 0] 118))
   have HKA:=Lib.hid (show A7w (wr.alloc (.cells #[.int .i64 p,.int .u8 (o:Nat),.int .i64 0,.int .i64 0] 118)) wr.heap.size p o 0 0 from heap_alloc_last wr _)
   have HWW:=Lib.hid ((Below.refl wr.heap.size wr).alloc (Nat.le_refl _) (.cells #[.int .i64 p,.int .u8 (o:Nat),.int .i64 0,.int .i64 0] 118));clear q0
   generalize wr.alloc (.cells #[.int .i64 p,.int .u8 (o:Nat),.int .i64 0,.int .i64 0] 118)=W at*;generalize hg0:wr.heap.size=g at*;have HG0:=Lib.hid hg0;clear hg0
   obtain⟨⟨c0,c1,c2,c3⟩,⟨f2,f3⟩,hgW⟩:=HKA.out.box;obtain⟨s,hs⟩:∃s,s=A2m f:=⟨_,rfl⟩;rw[←hs]at HLE HSH HBA HNX;have HSZ:=Lib.hid hs;clear hs
   go_wp2_with fail
   refine(HLE.out _).mono ?_;rintro e w' ⟨rfl,rfl⟩;have hfc:f=0∨f=1∨f=2∨f=3∨f=4∨f=5∨f=6∨f=7∨f=8∨f=9:=by omega
   clear hf9
   rcases hfc with rfl|rfl|rfl|rfl|rfl|rfl|rfl|rfl|rfl|rfl
   ·have HQ:=Lib.hid (show R=(8,[]) by rw[HR.out];exact A3c H4.out (by rw[HD.out];exact HNO.out rfl) (by decide));obtain rfl:s=0:=HSZ.out;clear HNO HSH HBA HNX
    go_wp2_with fail
    go_ret2;exact A2e.err HQ.out HAL.out
   ·have HV:Hid ((A5s bs ((p:Int)+1) 1).1=A2d bs p 1):=Lib.hid rfl;have HU:=Lib.hid (A2a bs ((p:Int)+1) 1);have hsm:=A1x bs ((p:Int)+1) 1 1 (by decide) (by decide)
    have HC:=Lib.hid (fun w' (h:Below w.heap.size w w')=>A4w w' (some ⟨b,off,none⟩) n cap bs ((p:Int)+1) 1 (HS.out.below h) (by omega) hcap (by unfold A4x;omega) (by unfold A4x;omega))
    rw[HV.out]at HC HU hsm;generalize(A5s bs ((p:Int)+1) 1).2=e2 at*;have HRA:Hid (A1s bs p 1=0):=Lib.hid (by unfold A1s;simp)
    have HRB:Hid (A2f bs p 1=0):=Lib.hid (by unfold A2f;simp);have HBD:Hid (A2b bs p 1=false):=Lib.hid (by unfold A2b;simp);obtain⟨ra,hra⟩:∃x,x=A1s bs p 1:=⟨_,rfl⟩
    obtain⟨rb,hrb⟩:∃y,y=A2f bs p 1:=⟨_,rfl⟩;rw[←hra]at HRA HNX HWF;rw[←hrb]at HRB HNX;obtain rfl:s=1:=HSZ.out;clear hra hrb HV HNO;generalize A2d bs p 1=v at*
    rw[show((256^1:Nat):Int)=256 from rfl]at hsm;have hv0:=HU.out.1;by_cases h1:n-p<1
    ·have HQ:=Lib.hid (show R=(6,[]) by rw[HR.out];exact A3c H4.out (by rw[HD.out];exact HSH.out (by decide) h1) (by decide));have e2':decide ((n:Int) -p<1)=true:=by simp;omega
     clear HSH HBA HNX
     go_wp2_with fail
     go_ret2;exact A2e.err HQ.out HAL.out
    have e2':decide ((n:Int) -p<1)=false:=by simp;omega
    have HSN:=Lib.hid h1;have hpn:p+1≤n:=by omega
    clear h1
    go_wp2_with fail
    refine(HC.out _ HAL.out).mono ?_;rintro e w' ⟨rfl,rfl⟩
    go_wp2_with fail
    refine(HFM.out _).mono ?_;rintro e w' ⟨rfl,rfl⟩
    go_upto_region 27 with fail
    have HKX:=Lib.hid (show A7w W g p o ra rb by rw[HRA.out,HRB.out];exact HKA.out);have HWX:=HWW;have HBX:=Lib.hid (HB.out.trans (HWX.out.mono (by rw[←HG0.out];exact HB.out.size)))
    have HOX:=Lib.hid (A1n HO.out (by rw[HG0.out];exact HWX.out));clear HKA HWW;have HBF:=Lib.hid HBD.out;clear c0 c1 c2 c3;obtain⟨⟨c0,c1,c2,c3⟩,_,hgX0⟩:=HKX.out.box
    go_wp2_with fail
    refine(HFM.out _).mono ?_;rintro e w' ⟨rfl,rfl⟩;clear c0 c1 c2 c3 hgX0;have HDN:=Lib.hid (HD.out.trans (HNX.out (by decide) HSN.out HBF.out));obtain⟨⟨c0,c1,c2,c3⟩,_,hgX⟩:=HKX.out.box
    go_wp2_with (at_builtin;first
     |(refine A0r stR rfl _ _ rfl w.heap.size _ _ _ rfl HOX.out _ 1 _ _ rfl rfl rfl rfl (by omega) (by unfold maxLen;omega) HBX.out.size ?_;intro v4 w4 hown4 hg4 hb4;have HO4:=Lib.hid hown4;have HB4:=Lib.hid (HBX.out.trans hb4);clear hown4 hg4 hb4))
    go_roundg (n-(p+1))
    case measure=>omega
    case rel=>exact⟨p+1,fuel,m+1,acc++[⟨p,o,ra,rb⟩],by omega,rfl,by go_num,by omega,by omega,Lib.hid (by rw[List.flatMap_append];exact HO4.out),Lib.hid (fun r hr=>by
     rcases List.mem_append.1 hr with h|h
     ·exact HW.out r h
     ·rw[List.mem_singleton.1 h];exact HWF.out),HB4,HDN⟩
   ·have HV:Hid ((A5s bs ((p:Int)+1) 1).1=A2d bs p 2):=Lib.hid rfl;have HU:=Lib.hid (A2a bs ((p:Int)+1) 1);have hsm:=A1x bs ((p:Int)+1) 1 1 (by decide) (by decide)
    have HC:=Lib.hid (fun w' (h:Below w.heap.size w w')=>A4w w' (some ⟨b,off,none⟩) n cap bs ((p:Int)+1) 1 (HS.out.below h) (by omega) hcap (by unfold A4x;omega) (by unfold A4x;omega))
    rw[HV.out]at HC HU hsm;generalize(A5s bs ((p:Int)+1) 1).2=e2 at*;have HRA:Hid (A1s bs p 2=A2d bs p 2):=Lib.hid (by unfold A1s;simp)
    have HRB:Hid (A2f bs p 2=0):=Lib.hid (by unfold A2f;simp);have HBD:Hid (A2b bs p 2=false):=Lib.hid (by unfold A2b;simp);obtain⟨ra,hra⟩:∃x,x=A1s bs p 2:=⟨_,rfl⟩
    obtain⟨rb,hrb⟩:∃y,y=A2f bs p 2:=⟨_,rfl⟩;rw[←hra]at HRA HNX HWF;rw[←hrb]at HRB HNX;obtain rfl:s=2:=HSZ.out;clear hra hrb HV HNO;generalize A2d bs p 2=v at*
    rw[show((256^1:Nat):Int)=256 from rfl]at hsm;have hv0:=HU.out.1;by_cases h1:n-p<2
    ·have HQ:=Lib.hid (show R=(6,[]) by rw[HR.out];exact A3c H4.out (by rw[HD.out];exact HSH.out (by decide) h1) (by decide));have e2':decide ((n:Int) -p<2)=true:=by simp;omega
     clear HSH HBA HNX
     go_wp2_with fail
     go_ret2;exact A2e.err HQ.out HAL.out
    have e2':decide ((n:Int) -p<2)=false:=by simp;omega
    have HSN:=Lib.hid h1;have hpn:p+2≤n:=by omega
    clear h1
    go_wp2_with fail
    refine(HC.out _ HAL.out).mono ?_;rintro e w' ⟨rfl,rfl⟩
    go_wp2_with fail
    refine(HFM.out _).mono ?_;rintro e w' ⟨rfl,rfl⟩
    go_upto_region 27 with fail
    have HKX:=Lib.hid (show A7w (W.setCell ⟨g,2,none⟩ (.int .i64 v)) g p o ra rb by rw[HRA.out,HRB.out];exact HKA.out.set2)
    have HWX:=Lib.hid (show Below g wr (W.setCell ⟨g,2,none⟩ (.int .i64 v))from HWW.out.setCell (p:=⟨g,2,none⟩) (Nat.le_refl _) _);clear c0 c1 c2 c3 f2 f3
    generalize(W.setCell ⟨g,2,none⟩ (.int .i64 v))=X at*;have HBX:=Lib.hid (HB.out.trans (HWX.out.mono (by rw[←HG0.out];exact HB.out.size)))
    have HOX:=Lib.hid (A1n HO.out (by rw[HG0.out];exact HWX.out));clear HKA HWW;have HBF:=Lib.hid HBD.out;obtain⟨⟨c0,c1,c2,c3⟩,_,hgX0⟩:=HKX.out.box
    go_wp2_with fail
    refine(HFM.out _).mono ?_;rintro e w' ⟨rfl,rfl⟩;clear c0 c1 c2 c3 hgX0;have HDN:=Lib.hid (HD.out.trans (HNX.out (by decide) HSN.out HBF.out));obtain⟨⟨c0,c1,c2,c3⟩,_,hgX⟩:=HKX.out.box
    go_wp2_with (at_builtin;first
     |(refine A0r stR rfl _ _ rfl w.heap.size _ _ _ rfl HOX.out _ 1 _ _ rfl rfl rfl rfl (by omega) (by unfold maxLen;omega) HBX.out.size ?_;intro v4 w4 hown4 hg4 hb4;have HO4:=Lib.hid hown4;have HB4:=Lib.hid (HBX.out.trans hb4);clear hown4 hg4 hb4))
    go_roundg (n-(p+2))
    case measure=>omega
    case rel=>exact⟨p+2,fuel,m+1,acc++[⟨p,o,ra,rb⟩],by omega,rfl,by go_num,by omega,by omega,Lib.hid (by rw[List.flatMap_append];exact HO4.out),Lib.hid (fun r hr=>by
     rcases List.mem_append.1 hr with h|h
     ·exact HW.out r h
     ·rw[List.mem_singleton.1 h];exact HWF.out),HB4,HDN⟩
   ·have HV:Hid ((A5s bs ((p:Int)+1) 1).1=A2d bs p 3):=Lib.hid rfl;have HU:=Lib.hid (A2a bs ((p:Int)+1) 1);have hsm:=A1x bs ((p:Int)+1) 1 1 (by decide) (by decide)
    have HC:=Lib.hid (fun w' (h:Below w.heap.size w w')=>A4w w' (some ⟨b,off,none⟩) n cap bs ((p:Int)+1) 1 (HS.out.below h) (by omega) hcap (by unfold A4x;omega) (by unfold A4x;omega))
    rw[HV.out]at HC HU hsm;generalize(A5s bs ((p:Int)+1) 1).2=e2 at*;have HRA:Hid (A1s bs p 3=A2p (A2d bs p 3) 1):=Lib.hid (by unfold A1s;simp)
    have HRB:Hid (A2f bs p 3=0):=Lib.hid (by unfold A2f;simp);have HBD:Hid (A2b bs p 3=false):=Lib.hid (by unfold A2b;simp);obtain⟨ra,hra⟩:∃x,x=A1s bs p 3:=⟨_,rfl⟩
    obtain⟨rb,hrb⟩:∃y,y=A2f bs p 3:=⟨_,rfl⟩;rw[←hra]at HRA HNX HWF;rw[←hrb]at HRB HNX;obtain rfl:s=2:=HSZ.out;clear hra hrb HV HNO;generalize A2d bs p 3=v at*
    rw[show((256^1:Nat):Int)=256 from rfl]at hsm;have hv0:=HU.out.1;by_cases h1:n-p<2
    ·have HQ:=Lib.hid (show R=(6,[]) by rw[HR.out];exact A3c H4.out (by rw[HD.out];exact HSH.out (by decide) h1) (by decide));have e2':decide ((n:Int) -p<2)=true:=by simp;omega
     clear HSH HBA HNX
     go_wp2_with fail
     go_ret2;exact A2e.err HQ.out HAL.out
    have e2':decide ((n:Int) -p<2)=false:=by simp;omega
    have HSN:=Lib.hid h1;have hpn:p+2≤n:=by omega
    clear h1
    go_wp2_with fail
    refine(HC.out _ HAL.out).mono ?_;rintro e w' ⟨rfl,rfl⟩
    go_wp2_with fail
    refine(HFM.out _).mono ?_;rintro e w' ⟨rfl,rfl⟩;have HSG:=Lib.hid (fun w'=>A8u w' v 1 HU.out (by unfold A4x;omega));have hs2:=B2s v
    go_wp2_with fail
    refine(HSG.out _).mono ?_;rintro e w' ⟨rfl,rfl⟩
    go_upto_region 27 with fail
    have HKX:=Lib.hid (show A7w (W.setCell ⟨g,2,none⟩ (.int .i64 (A2p v 1))) g p o ra rb by rw[HRA.out,HRB.out];exact HKA.out.set2)
    have HWX:=Lib.hid (show Below g wr (W.setCell ⟨g,2,none⟩ (.int .i64 (A2p v 1)))from HWW.out.setCell (p:=⟨g,2,none⟩) (Nat.le_refl _) _);clear c0 c1 c2 c3 f2 f3
    generalize(W.setCell ⟨g,2,none⟩ (.int .i64 (A2p v 1)))=X at*;have HBX:=Lib.hid (HB.out.trans (HWX.out.mono (by rw[←HG0.out];exact HB.out.size)))
    have HOX:=Lib.hid (A1n HO.out (by rw[HG0.out];exact HWX.out));clear HKA HWW;have HBF:=Lib.hid HBD.out;obtain⟨⟨c0,c1,c2,c3⟩,_,hgX0⟩:=HKX.out.box
    go_wp2_with fail
    refine(HFM.out _).mono ?_;rintro e w' ⟨rfl,rfl⟩;clear c0 c1 c2 c3 hgX0;have HDN:=Lib.hid (HD.out.trans (HNX.out (by decide) HSN.out HBF.out));obtain⟨⟨c0,c1,c2,c3⟩,_,hgX⟩:=HKX.out.box
    go_wp2_with (at_builtin;first
     |(refine A0r stR rfl _ _ rfl w.heap.size _ _ _ rfl HOX.out _ 1 _ _ rfl rfl rfl rfl (by omega) (by unfold maxLen;omega) HBX.out.size ?_;intro v4 w4 hown4 hg4 hb4;have HO4:=Lib.hid hown4;have HB4:=Lib.hid (HBX.out.trans hb4);clear hown4 hg4 hb4))
    go_roundg (n-(p+2))
    case measure=>omega
    case rel=>exact⟨p+2,fuel,m+1,acc++[⟨p,o,ra,rb⟩],by omega,rfl,by go_num,by omega,by omega,Lib.hid (by rw[List.flatMap_append];exact HO4.out),Lib.hid (fun r hr=>by
     rcases List.mem_append.1 hr with h|h
     ·exact HW.out r h
     ·rw[List.mem_singleton.1 h];exact HWF.out),HB4,HDN⟩
   ·have HV:Hid ((A5s bs ((p:Int)+1) 2).1=A2d bs p 4):=Lib.hid rfl;have HU:=Lib.hid (A2a bs ((p:Int)+1) 2);have hsm:=A1x bs ((p:Int)+1) 2 2 (by decide) (by decide)
    have HC:=Lib.hid (fun w' (h:Below w.heap.size w w')=>A4w w' (some ⟨b,off,none⟩) n cap bs ((p:Int)+1) 2 (HS.out.below h) (by omega) hcap (by unfold A4x;omega) (by unfold A4x;omega))
    rw[HV.out]at HC HU hsm;generalize(A5s bs ((p:Int)+1) 2).2=e2 at*;have HRA:Hid (A1s bs p 4=A2p (A2d bs p 4) 2):=Lib.hid (by unfold A1s;simp)
    have HRB:Hid (A2f bs p 4=0):=Lib.hid (by unfold A2f;simp);have HBD:Hid (A2b bs p 4=false):=Lib.hid (by unfold A2b;simp);obtain⟨ra,hra⟩:∃x,x=A1s bs p 4:=⟨_,rfl⟩
    obtain⟨rb,hrb⟩:∃y,y=A2f bs p 4:=⟨_,rfl⟩;rw[←hra]at HRA HNX HWF;rw[←hrb]at HRB HNX;obtain rfl:s=3:=HSZ.out;clear hra hrb HV HNO;generalize A2d bs p 4=v at*
    rw[show((256^2:Nat):Int)=65536 from rfl]at hsm;have hv0:=HU.out.1;by_cases h1:n-p<3
    ·have HQ:=Lib.hid (show R=(6,[]) by rw[HR.out];exact A3c H4.out (by rw[HD.out];exact HSH.out (by decide) h1) (by decide));have e2':decide ((n:Int) -p<3)=true:=by simp;omega
     clear HSH HBA HNX
     go_wp2_with fail
     go_ret2;exact A2e.err HQ.out HAL.out
    have e2':decide ((n:Int) -p<3)=false:=by simp;omega
    have HSN:=Lib.hid h1;have hpn:p+3≤n:=by omega
    clear h1
    go_wp2_with fail
    refine(HC.out _ HAL.out).mono ?_;rintro e w' ⟨rfl,rfl⟩
    go_wp2_with fail
    refine(HFM.out _).mono ?_;rintro e w' ⟨rfl,rfl⟩;have HSG:=Lib.hid (fun w'=>A8u w' v 2 HU.out (by unfold A4x;omega));have hs2:=B5e v
    go_wp2_with fail
    refine(HSG.out _).mono ?_;rintro e w' ⟨rfl,rfl⟩
    go_upto_region 27 with fail
    have HKX:=Lib.hid (show A7w (W.setCell ⟨g,2,none⟩ (.int .i64 (A2p v 2))) g p o ra rb by rw[HRA.out,HRB.out];exact HKA.out.set2)
    have HWX:=Lib.hid (show Below g wr (W.setCell ⟨g,2,none⟩ (.int .i64 (A2p v 2)))from HWW.out.setCell (p:=⟨g,2,none⟩) (Nat.le_refl _) _);clear c0 c1 c2 c3 f2 f3
    generalize(W.setCell ⟨g,2,none⟩ (.int .i64 (A2p v 2)))=X at*;have HBX:=Lib.hid (HB.out.trans (HWX.out.mono (by rw[←HG0.out];exact HB.out.size)))
    have HOX:=Lib.hid (A1n HO.out (by rw[HG0.out];exact HWX.out));clear HKA HWW;have HBF:=Lib.hid HBD.out;obtain⟨⟨c0,c1,c2,c3⟩,_,hgX0⟩:=HKX.out.box
    go_wp2_with fail
    refine(HFM.out _).mono ?_;rintro e w' ⟨rfl,rfl⟩;clear c0 c1 c2 c3 hgX0;have HDN:=Lib.hid (HD.out.trans (HNX.out (by decide) HSN.out HBF.out));obtain⟨⟨c0,c1,c2,c3⟩,_,hgX⟩:=HKX.out.box
    go_wp2_with (at_builtin;first
     |(refine A0r stR rfl _ _ rfl w.heap.size _ _ _ rfl HOX.out _ 1 _ _ rfl rfl rfl rfl (by omega) (by unfold maxLen;omega) HBX.out.size ?_;intro v4 w4 hown4 hg4 hb4;have HO4:=Lib.hid hown4;have HB4:=Lib.hid (HBX.out.trans hb4);clear hown4 hg4 hb4))
    go_roundg (n-(p+3))
    case measure=>omega
    case rel=>exact⟨p+3,fuel,m+1,acc++[⟨p,o,ra,rb⟩],by omega,rfl,by go_num,by omega,by omega,Lib.hid (by rw[List.flatMap_append];exact HO4.out),Lib.hid (fun r hr=>by
     rcases List.mem_append.1 hr with h|h
     ·exact HW.out r h
     ·rw[List.mem_singleton.1 h];exact HWF.out),HB4,HDN⟩
   ·have HV:Hid ((A5s bs ((p:Int)+1) 1).1=A2d bs p 5):=Lib.hid rfl;have HU:=Lib.hid (A2a bs ((p:Int)+1) 1);have hsm:=A1x bs ((p:Int)+1) 1 1 (by decide) (by decide)
    have HC:=Lib.hid (fun w' (h:Below w.heap.size w w')=>A4w w' (some ⟨b,off,none⟩) n cap bs ((p:Int)+1) 1 (HS.out.below h) (by omega) hcap (by unfold A4x;omega) (by unfold A4x;omega))
    rw[HV.out]at HC HU hsm;generalize(A5s bs ((p:Int)+1) 1).2=e2 at*;have HRA:Hid (A1s bs p 5=A2d bs p 5):=Lib.hid (by unfold A1s;simp)
    have HRB:Hid (A2f bs p 5=0):=Lib.hid (by unfold A2f;simp);have HBD:Hid (A2b bs p 5=false):=Lib.hid (by unfold A2b;simp);obtain⟨ra,hra⟩:∃x,x=A1s bs p 5:=⟨_,rfl⟩
    obtain⟨rb,hrb⟩:∃y,y=A2f bs p 5:=⟨_,rfl⟩;rw[←hra]at HRA HNX HWF;rw[←hrb]at HRB HNX;obtain rfl:s=2:=HSZ.out;clear hra hrb HV HNO;generalize A2d bs p 5=v at*
    rw[show((256^1:Nat):Int)=256 from rfl]at hsm;have hv0:=HU.out.1;by_cases h1:n-p<2
    ·have HQ:=Lib.hid (show R=(6,[]) by rw[HR.out];exact A3c H4.out (by rw[HD.out];exact HSH.out (by decide) h1) (by decide));have e2':decide ((n:Int) -p<2)=true:=by simp;omega
     clear HSH HBA HNX
     go_wp2_with fail
     go_ret2;exact A2e.err HQ.out HAL.out
    have e2':decide ((n:Int) -p<2)=false:=by simp;omega
    have HSN:=Lib.hid h1;have hpn:p+2≤n:=by omega
    clear h1
    go_wp2_with fail
    refine(HC.out _ HAL.out).mono ?_;rintro e w' ⟨rfl,rfl⟩
    go_wp2_with fail
    refine(HFM.out _).mono ?_;rintro e w' ⟨rfl,rfl⟩
    go_upto_region 27 with fail
    have HKX:=Lib.hid (show A7w (W.setCell ⟨g,2,none⟩ (.int .i64 v)) g p o ra rb by rw[HRA.out,HRB.out];exact HKA.out.set2)
    have HWX:=Lib.hid (show Below g wr (W.setCell ⟨g,2,none⟩ (.int .i64 v))from HWW.out.setCell (p:=⟨g,2,none⟩) (Nat.le_refl _) _);clear c0 c1 c2 c3 f2 f3
    generalize(W.setCell ⟨g,2,none⟩ (.int .i64 v))=X at*;have HBX:=Lib.hid (HB.out.trans (HWX.out.mono (by rw[←HG0.out];exact HB.out.size)))
    have HOX:=Lib.hid (A1n HO.out (by rw[HG0.out];exact HWX.out));clear HKA HWW;have HBF:=Lib.hid HBD.out;obtain⟨⟨c0,c1,c2,c3⟩,_,hgX0⟩:=HKX.out.box
    go_wp2_with fail
    refine(HFM.out _).mono ?_;rintro e w' ⟨rfl,rfl⟩;clear c0 c1 c2 c3 hgX0;have HDN:=Lib.hid (HD.out.trans (HNX.out (by decide) HSN.out HBF.out));obtain⟨⟨c0,c1,c2,c3⟩,_,hgX⟩:=HKX.out.box
    go_wp2_with (at_builtin;first
     |(refine A0r stR rfl _ _ rfl w.heap.size _ _ _ rfl HOX.out _ 1 _ _ rfl rfl rfl rfl (by omega) (by unfold maxLen;omega) HBX.out.size ?_;intro v4 w4 hown4 hg4 hb4;have HO4:=Lib.hid hown4;have HB4:=Lib.hid (HBX.out.trans hb4);clear hown4 hg4 hb4))
    go_roundg (n-(p+2))
    case measure=>omega
    case rel=>exact⟨p+2,fuel,m+1,acc++[⟨p,o,ra,rb⟩],by omega,rfl,by go_num,by omega,by omega,Lib.hid (by rw[List.flatMap_append];exact HO4.out),Lib.hid (fun r hr=>by
     rcases List.mem_append.1 hr with h|h
     ·exact HW.out r h
     ·rw[List.mem_singleton.1 h];exact HWF.out),HB4,HDN⟩
   ·have HV:Hid ((A5s bs ((p:Int)+1) 2).1=A2d bs p 6):=Lib.hid rfl;have HU:=Lib.hid (A2a bs ((p:Int)+1) 2);have hsm:=A1x bs ((p:Int)+1) 2 2 (by decide) (by decide)
    have HC:=Lib.hid (fun w' (h:Below w.heap.size w w')=>A4w w' (some ⟨b,off,none⟩) n cap bs ((p:Int)+1) 2 (HS.out.below h) (by omega) hcap (by unfold A4x;omega) (by unfold A4x;omega))
    rw[HV.out]at HC HU hsm;generalize(A5s bs ((p:Int)+1) 2).2=e2 at*;have HRA:Hid (A1s bs p 6=A2d bs p 6):=Lib.hid (by unfold A1s;simp)
    have HRB:Hid (A2f bs p 6=0):=Lib.hid (by unfold A2f;simp);have HBD:Hid (A2b bs p 6=false):=Lib.hid (by unfold A2b;simp);obtain⟨ra,hra⟩:∃x,x=A1s bs p 6:=⟨_,rfl⟩
    obtain⟨rb,hrb⟩:∃y,y=A2f bs p 6:=⟨_,rfl⟩;rw[←hra]at HRA HNX HWF;rw[←hrb]at HRB HNX;obtain rfl:s=3:=HSZ.out;clear hra hrb HV HNO;generalize A2d bs p 6=v at*
    rw[show((256^2:Nat):Int)=65536 from rfl]at hsm;have hv0:=HU.out.1;by_cases h1:n-p<3
    ·have HQ:=Lib.hid (show R=(6,[]) by rw[HR.out];exact A3c H4.out (by rw[HD.out];exact HSH.out (by decide) h1) (by decide));have e2':decide ((n:Int) -p<3)=true:=by simp;omega
     clear HSH HBA HNX
     go_wp2_with fail
     go_ret2;exact A2e.err HQ.out HAL.out
    have e2':decide ((n:Int) -p<3)=false:=by simp;omega
    have HSN:=Lib.hid h1;have hpn:p+3≤n:=by omega
    clear h1
    go_wp2_with fail
    refine(HC.out _ HAL.out).mono ?_;rintro e w' ⟨rfl,rfl⟩
    go_wp2_with fail
    refine(HFM.out _).mono ?_;rintro e w' ⟨rfl,rfl⟩
    go_upto_region 27 with fail
    have HKX:=Lib.hid (show A7w (W.setCell ⟨g,2,none⟩ (.int .i64 v)) g p o ra rb by rw[HRA.out,HRB.out];exact HKA.out.set2)
    have HWX:=Lib.hid (show Below g wr (W.setCell ⟨g,2,none⟩ (.int .i64 v))from HWW.out.setCell (p:=⟨g,2,none⟩) (Nat.le_refl _) _);clear c0 c1 c2 c3 f2 f3
    generalize(W.setCell ⟨g,2,none⟩ (.int .i64 v))=X at*;have HBX:=Lib.hid (HB.out.trans (HWX.out.mono (by rw[←HG0.out];exact HB.out.size)))
    have HOX:=Lib.hid (A1n HO.out (by rw[HG0.out];exact HWX.out));clear HKA HWW;have HBF:=Lib.hid HBD.out;obtain⟨⟨c0,c1,c2,c3⟩,_,hgX0⟩:=HKX.out.box
    go_wp2_with fail
    refine(HFM.out _).mono ?_;rintro e w' ⟨rfl,rfl⟩;clear c0 c1 c2 c3 hgX0;have HDN:=Lib.hid (HD.out.trans (HNX.out (by decide) HSN.out HBF.out));obtain⟨⟨c0,c1,c2,c3⟩,_,hgX⟩:=HKX.out.box
    go_wp2_with (at_builtin;first
     |(refine A0r stR rfl _ _ rfl w.heap.size _ _ _ rfl HOX.out _ 1 _ _ rfl rfl rfl rfl (by omega) (by unfold maxLen;omega) HBX.out.size ?_;intro v4 w4 hown4 hg4 hb4;have HO4:=Lib.hid hown4;have HB4:=Lib.hid (HBX.out.trans hb4);clear hown4 hg4 hb4))
    go_roundg (n-(p+3))
    case measure=>omega
    case rel=>exact⟨p+3,fuel,m+1,acc++[⟨p,o,ra,rb⟩],by omega,rfl,by go_num,by omega,by omega,Lib.hid (by rw[List.flatMap_append];exact HO4.out),Lib.hid (fun r hr=>by
     rcases List.mem_append.1 hr with h|h
     ·exact HW.out r h
     ·rw[List.mem_singleton.1 h];exact HWF.out),HB4,HDN⟩
   ·have HV:Hid ((A5s bs ((p:Int)+1) 2).1=A2d bs p 7):=Lib.hid rfl;have HU:=Lib.hid (A2a bs ((p:Int)+1) 2);have hsm:=A1x bs ((p:Int)+1) 2 2 (by decide) (by decide)
    have HC:=Lib.hid (fun w' (h:Below w.heap.size w w')=>A4w w' (some ⟨b,off,none⟩) n cap bs ((p:Int)+1) 2 (HS.out.below h) (by omega) hcap (by unfold A4x;omega) (by unfold A4x;omega))
    rw[HV.out]at HC HU hsm;generalize(A5s bs ((p:Int)+1) 2).2=e2 at*;have HRA:Hid (A1s bs p 7=(p:Int)+A2p (A2d bs p 7) 2):=Lib.hid (by unfold A1s;simp)
    have HRB:Hid (A2f bs p 7=0):=Lib.hid (by unfold A2f;simp);have HBD:Hid (A2b bs p 7=false):=Lib.hid (by unfold A2b;simp);obtain⟨ra,hra⟩:∃x,x=A1s bs p 7:=⟨_,rfl⟩
    obtain⟨rb,hrb⟩:∃y,y=A2f bs p 7:=⟨_,rfl⟩;rw[←hra]at HRA HNX HWF;rw[←hrb]at HRB HNX;obtain rfl:s=3:=HSZ.out;clear hra hrb HV HNO;generalize A2d bs p 7=v at*
    rw[show((256^2:Nat):Int)=65536 from rfl]at hsm;have hv0:=HU.out.1;by_cases h1:n-p<3
    ·have HQ:=Lib.hid (show R=(6,[]) by rw[HR.out];exact A3c H4.out (by rw[HD.out];exact HSH.out (by decide) h1) (by decide));have e2':decide ((n:Int) -p<3)=true:=by simp;omega
     clear HSH HBA HNX
     go_wp2_with fail
     go_ret2;exact A2e.err HQ.out HAL.out
    have e2':decide ((n:Int) -p<3)=false:=by simp;omega
    have HSN:=Lib.hid h1;have hpn:p+3≤n:=by omega
    clear h1
    go_wp2_with fail
    refine(HC.out _ HAL.out).mono ?_;rintro e w' ⟨rfl,rfl⟩
    go_wp2_with fail
    refine(HFM.out _).mono ?_;rintro e w' ⟨rfl,rfl⟩;have HSG:=Lib.hid (fun w'=>A8u w' v 2 HU.out (by unfold A4x;omega));have hs2:=B5e v
    go_wp2_with fail
    refine(HSG.out _).mono ?_;rintro e w' ⟨rfl,rfl⟩
    go_upto_region 27 with fail
    have HKX:=Lib.hid (show A7w (W.setCell ⟨g,2,none⟩ (.int .i64 ((p:Int)+A2p v 2))) g p o ra rb by rw[HRA.out,HRB.out];exact HKA.out.set2)
    have HWX:=Lib.hid (show Below g wr (W.setCell ⟨g,2,none⟩ (.int .i64 ((p:Int)+A2p v 2)))from HWW.out.setCell (p:=⟨g,2,none⟩) (Nat.le_refl _) _);clear c0 c1 c2 c3 f2 f3
    generalize(W.setCell ⟨g,2,none⟩ (.int .i64 ((p:Int)+A2p v 2)))=X at*;have HBX:=Lib.hid (HB.out.trans (HWX.out.mono (by rw[←HG0.out];exact HB.out.size)))
    have HOX:=Lib.hid (A1n HO.out (by rw[HG0.out];exact HWX.out));clear HKA HWW;have HBF:=Lib.hid HBD.out;obtain⟨⟨c0,c1,c2,c3⟩,_,hgX0⟩:=HKX.out.box
    go_wp2_with fail
    refine(HFM.out _).mono ?_;rintro e w' ⟨rfl,rfl⟩;clear c0 c1 c2 c3 hgX0;have HDN:=Lib.hid (HD.out.trans (HNX.out (by decide) HSN.out HBF.out));obtain⟨⟨c0,c1,c2,c3⟩,_,hgX⟩:=HKX.out.box
    go_wp2_with (at_builtin;first
     |(refine A0r stR rfl _ _ rfl w.heap.size _ _ _ rfl HOX.out _ 1 _ _ rfl rfl rfl rfl (by omega) (by unfold maxLen;omega) HBX.out.size ?_;intro v4 w4 hown4 hg4 hb4;have HO4:=Lib.hid hown4;have HB4:=Lib.hid (HBX.out.trans hb4);clear hown4 hg4 hb4))
    go_roundg (n-(p+3))
    case measure=>omega
    case rel=>exact⟨p+3,fuel,m+1,acc++[⟨p,o,ra,rb⟩],by omega,rfl,by go_num,by omega,by omega,Lib.hid (by rw[List.flatMap_append];exact HO4.out),Lib.hid (fun r hr=>by
     rcases List.mem_append.1 hr with h|h
     ·exact HW.out r h
     ·rw[List.mem_singleton.1 h];exact HWF.out),HB4,HDN⟩
   ·have HV:Hid ((A5s bs ((p:Int)+1) 2).1=A2d bs p 8):=Lib.hid rfl;have HU:=Lib.hid (A2a bs ((p:Int)+1) 2);have hsm:=A1x bs ((p:Int)+1) 2 2 (by decide) (by decide)
    have HC:=Lib.hid (fun w' (h:Below w.heap.size w w')=>A4w w' (some ⟨b,off,none⟩) n cap bs ((p:Int)+1) 2 (HS.out.below h) (by omega) hcap (by unfold A4x;omega) (by unfold A4x;omega))
    rw[HV.out]at HC HU hsm;generalize(A5s bs ((p:Int)+1) 2).2=e2 at*;have HRA:Hid (A1s bs p 8=A2d bs p 8/256):=Lib.hid (by unfold A1s;simp)
    have HRB:Hid (A2f bs p 8=A2p (A2d bs p 8) 1):=Lib.hid (by unfold A2f;simp);have HBD:Hid (A2b bs p 8=false):=Lib.hid (by unfold A2b;simp)
    obtain⟨ra,hra⟩:∃x,x=A1s bs p 8:=⟨_,rfl⟩;obtain⟨rb,hrb⟩:∃y,y=A2f bs p 8:=⟨_,rfl⟩;rw[←hra]at HRA HNX HWF;rw[←hrb]at HRB HNX;obtain rfl:s=3:=HSZ.out
    clear hra hrb HV HNO;generalize A2d bs p 8=v at*;rw[show((256^2:Nat):Int)=65536 from rfl]at hsm;have hv0:=HU.out.1;by_cases h1:n-p<3
    ·have HQ:=Lib.hid (show R=(6,[]) by rw[HR.out];exact A3c H4.out (by rw[HD.out];exact HSH.out (by decide) h1) (by decide));have e2':decide ((n:Int) -p<3)=true:=by simp;omega
     clear HSH HBA HNX
     go_wp2_with fail
     go_ret2;exact A2e.err HQ.out HAL.out
    have e2':decide ((n:Int) -p<3)=false:=by simp;omega
    have HSN:=Lib.hid h1;have hpn:p+3≤n:=by omega
    clear h1
    go_wp2_with fail
    refine(HC.out _ HAL.out).mono ?_;rintro e w' ⟨rfl,rfl⟩
    go_wp2_with fail
    refine(HFM.out _).mono ?_;rintro e w' ⟨rfl,rfl⟩;have HSG:=Lib.hid (fun w'=>A8u w' v 1 HU.out (by unfold A4x;omega));have hs2:=B2s v
    go_wp2_with fail
    refine(HSG.out _).mono ?_;rintro e w' ⟨rfl,rfl⟩
    go_upto_region 27 with fail
    have HKX:=Lib.hid (show A7w ((W.setCell ⟨g,2,none⟩ (.int .i64 (v/256))).setCell ⟨g,3,none⟩ (.int .i64 (A2p v 1))) g p o ra rb by rw[HRA.out,HRB.out];exact HKA.out.set2.set3)
    have HWX:=Lib.hid (show Below g wr ((W.setCell ⟨g,2,none⟩ (.int .i64 (v/256))).setCell ⟨g,3,none⟩ (.int .i64 (A2p v 1)))from(HWW.out.setCell (p:=⟨g,2,none⟩) (Nat.le_refl _) _).setCell (p:=⟨g,3,none⟩) (Nat.le_refl _) _)
    clear c0 c1 c2 c3 f2 f3;generalize((W.setCell ⟨g,2,none⟩ (.int .i64 (v/256))).setCell ⟨g,3,none⟩ (.int .i64 (A2p v 1)))=X at*
    have HBX:=Lib.hid (HB.out.trans (HWX.out.mono (by rw[←HG0.out];exact HB.out.size)));have HOX:=Lib.hid (A1n HO.out (by rw[HG0.out];exact HWX.out));clear HKA HWW;have HBF:=Lib.hid HBD.out
    obtain⟨⟨c0,c1,c2,c3⟩,_,hgX0⟩:=HKX.out.box
    go_wp2_with fail
    refine(HFM.out _).mono ?_;rintro e w' ⟨rfl,rfl⟩;clear c0 c1 c2 c3 hgX0;have HDN:=Lib.hid (HD.out.trans (HNX.out (by decide) HSN.out HBF.out));obtain⟨⟨c0,c1,c2,c3⟩,_,hgX⟩:=HKX.out.box
    go_wp2_with (at_builtin;first
     |(refine A0r stR rfl _ _ rfl w.heap.size _ _ _ rfl HOX.out _ 1 _ _ rfl rfl rfl rfl (by omega) (by unfold maxLen;omega) HBX.out.size ?_;intro v4 w4 hown4 hg4 hb4;have HO4:=Lib.hid hown4;have HB4:=Lib.hid (HBX.out.trans hb4);clear hown4 hg4 hb4))
    go_roundg (n-(p+3))
    case measure=>omega
    case rel=>exact⟨p+3,fuel,m+1,acc++[⟨p,o,ra,rb⟩],by omega,rfl,by go_num,by omega,by omega,Lib.hid (by rw[List.flatMap_append];exact HO4.out),Lib.hid (fun r hr=>by
     rcases List.mem_append.1 hr with h|h
     ·exact HW.out r h
     ·rw[List.mem_singleton.1 h];exact HWF.out),HB4,HDN⟩
   ·have HV:Hid ((A5s bs ((p:Int)+1) 1).1=A2d bs p 9):=Lib.hid rfl;have HU:=Lib.hid (A2a bs ((p:Int)+1) 1);have hsm:=A1x bs ((p:Int)+1) 1 1 (by decide) (by decide)
    have HC:=Lib.hid (fun w' (h:Below w.heap.size w w')=>A4w w' (some ⟨b,off,none⟩) n cap bs ((p:Int)+1) 1 (HS.out.below h) (by omega) hcap (by unfold A4x;omega) (by unfold A4x;omega))
    rw[HV.out]at HC HU hsm;generalize(A5s bs ((p:Int)+1) 1).2=e2 at*;have HRA:Hid (A1s bs p 9=A2d bs p 9):=Lib.hid (by unfold A1s;simp)
    have HRB:Hid (A2f bs p 9=0):=Lib.hid (by unfold A2f;simp);have HBD:Hid (A2b bs p 9=(!(A1s bs p 9==8)&& !(A1s bs p 9==10))):=Lib.hid (by unfold A2b;simp)
    obtain⟨ra,hra⟩:∃x,x=A1s bs p 9:=⟨_,rfl⟩;obtain⟨rb,hrb⟩:∃y,y=A2f bs p 9:=⟨_,rfl⟩;rw[←hra]at HRA HNX HWF HBD;rw[←hrb]at HRB HNX;obtain rfl:s=2:=HSZ.out
    clear hra hrb HV HNO;generalize A2d bs p 9=v at*;rw[show((256^1:Nat):Int)=256 from rfl]at hsm;have hv0:=HU.out.1;by_cases h1:n-p<2
    ·have HQ:=Lib.hid (show R=(6,[]) by rw[HR.out];exact A3c H4.out (by rw[HD.out];exact HSH.out (by decide) h1) (by decide));have e2':decide ((n:Int) -p<2)=true:=by simp;omega
     clear HSH HBA HNX
     go_wp2_with fail
     go_ret2;exact A2e.err HQ.out HAL.out
    have e2':decide ((n:Int) -p<2)=false:=by simp;omega
    have HSN:=Lib.hid h1;have hpn:p+2≤n:=by omega
    clear h1
    go_wp2_with fail
    refine(HC.out _ HAL.out).mono ?_;rintro e w' ⟨rfl,rfl⟩
    go_wp2_with fail
    refine(HFM.out _).mono ?_;rintro e w' ⟨rfl,rfl⟩
    go_upto_region 27 with fail
    have HKX:=Lib.hid (show A7w (W.setCell ⟨g,2,none⟩ (.int .i64 v)) g p o ra rb by rw[HRA.out,HRB.out];exact HKA.out.set2)
    have HWX:=Lib.hid (show Below g wr (W.setCell ⟨g,2,none⟩ (.int .i64 v))from HWW.out.setCell (p:=⟨g,2,none⟩) (Nat.le_refl _) _);clear c0 c1 c2 c3 f2 f3
    generalize(W.setCell ⟨g,2,none⟩ (.int .i64 v))=X at*;have HBX:=Lib.hid (HB.out.trans (HWX.out.mono (by rw[←HG0.out];exact HB.out.size)))
    have HOX:=Lib.hid (A1n HO.out (by rw[HG0.out];exact HWX.out));clear HKA HWW;obtain⟨⟨c0,c1,c2,c3⟩,_,hgX0⟩:=HKX.out.box
    go_wp2_with fail
    refine(HFM.out _).mono ?_;rintro e w' ⟨rfl,rfl⟩;by_cases h8:ra=8
    ·have e8:(ra !=8)=false:=by simp[h8]
     have HBF:=Lib.hid (show A2b bs p 9=false by rw[HBD.out];simp[h8]);clear h8 HBD c0 c1 c2 c3 hgX0;have HDN:=Lib.hid (HD.out.trans (HNX.out (by decide) HSN.out HBF.out))
     obtain⟨⟨c0,c1,c2,c3⟩,_,hgX⟩:=HKX.out.box
     go_wp2_with (at_builtin;first
      |(refine A0r stR rfl _ _ rfl w.heap.size _ _ _ rfl HOX.out _ 1 _ _ rfl rfl rfl rfl (by omega) (by unfold maxLen;omega) HBX.out.size ?_;intro v4 w4 hown4 hg4 hb4;have HO4:=Lib.hid hown4;have HB4:=Lib.hid (HBX.out.trans hb4);clear hown4 hg4 hb4))
     go_roundg (n-(p+2))
     case measure=>omega
     case rel=>exact⟨p+2,fuel,m+1,acc++[⟨p,o,ra,rb⟩],by omega,rfl,by go_num,by omega,by omega,Lib.hid (by rw[List.flatMap_append];exact HO4.out),Lib.hid (fun r hr=>by
      rcases List.mem_append.1 hr with h|h
      ·exact HW.out r h
      ·rw[List.mem_singleton.1 h];exact HWF.out),HB4,HDN⟩
    have e8:(ra !=8)=true:=by simp[h8]
    by_cases h10:ra=10
    ·have e10:(ra !=10)=false:=by simp[h10]
     have HBF:=Lib.hid (show A2b bs p 9=false by rw[HBD.out];simp[h10]);clear h8 h10 HBD c0 c1 c2 c3 hgX0;have HDN:=Lib.hid (HD.out.trans (HNX.out (by decide) HSN.out HBF.out))
     obtain⟨⟨c0,c1,c2,c3⟩,_,hgX⟩:=HKX.out.box
     go_wp2_with (at_builtin;first
      |(refine A0r stR rfl _ _ rfl w.heap.size _ _ _ rfl HOX.out _ 1 _ _ rfl rfl rfl rfl (by omega) (by unfold maxLen;omega) HBX.out.size ?_;intro v4 w4 hown4 hg4 hb4;have HO4:=Lib.hid hown4;have HB4:=Lib.hid (HBX.out.trans hb4);clear hown4 hg4 hb4))
     go_roundg (n-(p+2))
     case measure=>omega
     case rel=>exact⟨p+2,fuel,m+1,acc++[⟨p,o,ra,rb⟩],by omega,rfl,by go_num,by omega,by omega,Lib.hid (by rw[List.flatMap_append];exact HO4.out),Lib.hid (fun r hr=>by
      rcases List.mem_append.1 hr with h|h
      ·exact HW.out r h
      ·rw[List.mem_singleton.1 h];exact HWF.out),HB4,HDN⟩
    have e10:(ra !=10)=true:=by simp[h10]
    have HQ:=Lib.hid (show R=(8,[]) by rw[HR.out];exact A3c H4.out (by rw[HD.out];exact HBA.out (by decide) HSN.out (by rw[HBD.out];simp[h8,h10])) (by decide));clear h8 h10 HBD
    go_wp2_with fail
    go_ret2;exact A2e.err HQ.out HBX.out
  ·obtain rfl:p=n:=by omega
   have HDE:=Lib.hid (HD.out.trans (B3w bs fuel p acc (by rw[HLn.out];exact Nat.le_refl _)));obtain⟨va,vc,rfl,hss,hcc⟩:=Ss.ofOwn RW.cells_length (by decide) HO.out
   have HG:=Lib.hid (fun w' (hb:Below wr.heap.size wr w')=>C3w w' va m vc acc (Rs.below hss hb) (by omega) (fun r hr=>(HW.out r hr).2.2));clear hss
   go_wp2_with fail
   refine(HG.out _ (Below.refl _ _)).mono ?_;rintro e w3 ⟨rfl,hb3⟩;have HB3:=Lib.hid (HB.out.trans (hb3.mono HB.out.size));have HO3:=Lib.hid (A1n HO.out hb3);clear hb3
   cases hg:A7y acc
   ·have HQ:=Lib.hid (show R=(2,[]) by rw[HR.out];exact B3f H4.out HDE.out hg);clear hg
    go_wp2_with fail
    go_ret2;exact A2e.err HQ.out HB3.out
   ·have HQ:=Lib.hid (show R=(0,acc) by rw[HR.out];exact B9z H4.out HDE.out hg);clear hg
    go_wp2_with fail
    go_ret2;exact⟨_,m,by rw[HQ.out];rfl,by rw[HQ.out];exact HO3.out,by rw[HQ.out];exact HW.out,HB3.out⟩
def A5q(L:List RW)(p:Int):Int:=match L.findIdx? (fun r=>r.pos==p)with|some k=>(k:Nat)|none=> -1
theorem B8s{L:List RW}{r:RW}{p:Int}{j:Nat}(hr:L[j]? =some r)(h:r.pos=p)(hb:∀(k:Nat) r,k<j→L[k]? =some r→r.pos≠p):A5q L p=(j:Nat):=by
 obtain⟨hj,he⟩:=List.getElem?_eq_some_iff.1 hr;unfold A5q;rw[List.findIdx?_eq_some_iff_getElem.2 ⟨hj,by rw[he];simp[h],fun k hk=>by simpa using hb k _ hk (List.getElem?_eq_getElem (by omega))⟩]
theorem B9i{L:List RW}{p:Int}(h:∀(k:Nat) r,L[k]? =some r→r.pos≠p):A5q L p= -1:=by
 unfold A5q
 rw[List.findIdx?_eq_none_iff.2 (fun x hx=>by
  obtain⟨k,hk,rfl⟩:=List.getElem_of_mem hx;simpa using h k _ (List.getElem?_eq_getElem hk))]
theorem A7z(w:World)(a:Option Addr)(n cap:Nat)(L:List RW)(p:Int)(hs:Rs w a n L)(hn:n≤65536):Calls Tryz.prog 68 #[.slice a n cap,.int .i64 p] w (B0f (.int .i64 (A5q L p)) w):=by
 have HS:=Lib.hid hs;have HLn:=Lib.hid hs.1;clear hs;go_enter Tryz.func68,Tryz.ntmps68
 go_wp2_with fail
 go_loopg [9] n (fun gn i wr=>∃j:Nat,j≤n∧gn=n-j∧i= .int .i64 j∧Hid (∀(k:Nat) r,k<j→L[k]? =some r→r.pos≠p)∧Hid (Below w.heap.size w wr))
 case atStart=>exact⟨0,by omega,by omega,by go_num,Lib.hid (fun k r h=>by omega),Lib.hid (Below.refl _ _)⟩
 case round=>
  obtain⟨j,hj,rfl,rfl,HG,HB⟩:=hrel;by_cases hlt:j<n
  ·obtain⟨b,off,r,rfl,_,hr,q⟩:=(HS.out.below HB.out).at j hlt;obtain⟨q0,q1,q2,q3⟩:=q;have HYE:=Lib.hid (fun h=>B8s (p:=p) hr h (fun k r' hk hr'=>HG.out k r' hk hr'))
   have HNX:=Lib.hid (show r.pos≠p→∀(k:Nat) r,k<j+1→L[k]? =some r→r.pos≠p from fun h k r' hk hr'=>by
    rcases Nat.lt_or_ge k j with h1|h1
    ·exact HG.out k r' h1 hr'
    ·obtain rfl:k=j:=by omega
     rw[hr]at hr'
     cases hr'
     exact h)
   have j1:(j:Int)<n:=by omega
   obtain⟨x,o,y,z⟩:=r;simp only at q0 q1 q2 q3 HYE HNX;clear hr;by_cases hx:x=p
   ·subst hx;have HR:=Lib.hid (HYE.out rfl);clear HYE HNX
    go_wp2_with fail
    go_ret;exact⟨by rw[HR.out];rfl,HB.out.alloc HB.out.size _⟩
   ·have ex:(x==p)=false:=by simp[hx]
    have HQ:=Lib.hid (HNX.out hx);clear hx HYE HNX
    go_wp2_with fail
    go_roundg (n-(j+1))
    case measure=>omega
    case rel=>exact⟨j+1,by omega,rfl,by go_num,HQ,Lib.hid (HB.out.alloc HB.out.size _)⟩
  ·obtain rfl:j=n:=by omega
   have HR:=Lib.hid (B9i (L:=L) (p:=p) (fun k r hk=>HG.out k r (by have:=(List.getElem?_eq_some_iff.1 hk).1;rw[HLn.out]at this;exact this) hk))
   go_wp2_with fail
   go_ret;exact⟨by rw[HR.out];rfl,HB.out⟩
end
end Go.Proofs.YtclpkipaehpkdaaGreatDoor
