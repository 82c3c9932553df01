/- asm -/
import Derived.Test.YtclpkipaehpkdaaGreatDoorQ14AsmMade
import Derived.Deep.CutBlock
set_option linter.unusedVariables false
set_option linter.unusedSimpArgs false
set_option maxRecDepth 100000
set_option maxHeartbeats 64000000
namespace Go.Proofs.YtclpkipaehpkdaaGreatDoor
section
open Go.ChangeShapes Go.WideShapes Go.ChangeAt Go.RowKit Go.Maps
theorem C5e(w:World)(B g:Nat)(s:LW)(x:IN)(h:LoS w B g s)(hf:B2w x)(hn:s.l.length<=1000000000040)(hB:B<=w.heap.size):
  Calls Tryz.prog 119 #[.pointer (some ⟨g,0,none⟩),.agg x.cells.toArray] w (B1y (.int .i64 ((s.wide x).2:Nat)) B g (s.wide x).1 w):=by
 replace hn:s.l.length<=1000000000050:=by omega
 have HF:=hzz hf;have hb1:Below w.heap.size w (w.alloc (.cells x.cells.toArray A2e)):=A0f _ _;have HS1:=hzz (h.below hb1)
 have HK0:=hzz (A0u.of hb1:A0u B w (w.alloc (.cells x.cells.toArray A2e)));have HXB:=hzz (show A3j w.heap.size x (w.alloc (.cells x.cells.toArray A2e))from heap_alloc_last w _)
 obtain⟨R,hR⟩:=exz (s.wide x);rw[<-hR];have HR:=hzz hR;have HEQ:=fun W (y:IN)=>B2h W 9998 x y
 clear hR h hf hb1;obtain⟨op,n,m,cl,nm,ds,tx⟩:=x;dsimp only[IN.cells]at HS1 HK0 HXB HF HR HEQ⊢;by_cases hop:op=178
 ·have e178:((op:Int)==178)=true:=by rw[hop];rfl
  have HRR:=hzz (show R=(s.need (A3d ⟨op,n,m,cl,nm,ds,tx⟩) 8).member ⟨op,n,m,cl,nm,ds,tx⟩ 9 typeB by
   rw[HR.out];unfold LW.wide;rw[if_pos (show A6k op=true by rw[hop];decide)])
  clear HR hop
  have HMB:=hzz (fun w3 hs hB3=>A4q w3 B g (s.need (A3d ⟨op,n,m,cl,nm,ds,tx⟩) 8) ⟨op,n,m,cl,nm,ds,tx⟩ 9 23 typeB (fun args W=>rfl) (fun W s h1 h2=>A2v W s h1 h2) hs HF.out hn hB3 (by decide))
  dsimp only[IN.cells]at HMB;obtain⟨b,hb⟩:=exz (A3d ⟨op,n,m,cl,nm,ds,tx⟩);rw[<-hb]at HRR HMB;unfold A3d at hb;dsimp only at hb
  generalize(s.need b 8).member ⟨op,n,m,cl,nm,ds,tx⟩ 9 typeB=Q at*;have HNN:=hzz (fun W (h:LoS W B g s)=>A0v W B g s b 8 h);by_cases hn0:n=0
  ·have t0:(n==0)=true:=by rw[hn0];rfl
   by_cases hm0:m=0
   ·have t1:(m==0)=true:=by rw[hm0];rfl
    obtain⟨bt,hbt⟩:=exz (decide (tx=[]));have t2:(tx==[])=bt:=by rw[hbt,Bool.eq_iff_iff,beq_iff_eq,decide_eq_true_iff]
    have t3:tx.isEmpty=bt:=by rw[hbt,Bool.eq_iff_iff,List.isEmpty_iff,decide_eq_true_iff]
    have hbb:b=bt:=by rw[hb,hbt];simp[hn0,hm0]
    subst hbb;clear hb hbt hn0 hm0;go_enter Tryz.func119,Tryz.ntmps119
    go_upto_region 1 with fail
    generalize w.alloc _=W at*;obtain⟨j0,j1,j2,j3,j4,j5,j6,-,-,-,-,-,-⟩:=HXB.out.box;dsimp only at j0 j1 j2 j3 j4 j5 j6
    go_wp2_with fail
    refine(HNN.out W HS1.out).mono ?_;rintro e w3 ⟨rfl,hs3,hk3⟩;have HK3:=hzz (HK0.out.trans hk3);have HX3:=hzz (HXB.out.keepL hk3);have HC:=hzz (HMB.out w3 hs3 (HK3.out.bnd hB))
    clear hs3 hk3 HMB HNN j0 j1 j2 j3 j4 j5 j6;obtain⟨j0,j1,j2,j3,j4,j5,j6,-,-,-,-,-,-⟩:=HX3.out.box;dsimp only at j0 j1 j2 j3 j4 j5 j6
    go_wp2_with fail
    refine HC.out.mono ?_;rintro e w4 ⟨rfl,hs4,hk4⟩
    go_wp2_with fail
    go_ret;rw[HRR.out];exact⟨rfl,hs4,HK3.out.trans hk4⟩
   have t1:(m==0)=false:=by simpa using hm0
   have hbb:b=false:=by rw[hb];exact decide_eq_false (fun h=>hm0 h.2.1)
   subst hbb;clear hb hn0 hm0;go_enter Tryz.func119,Tryz.ntmps119
   go_upto_region 1 with fail
   generalize w.alloc _=W at*;obtain⟨j0,j1,j2,j3,j4,j5,j6,-,-,-,-,-,-⟩:=HXB.out.box;dsimp only at j0 j1 j2 j3 j4 j5 j6
   go_wp2_with fail
   refine(HNN.out W HS1.out).mono ?_;rintro e w3 ⟨rfl,hs3,hk3⟩;have HK3:=hzz (HK0.out.trans hk3);have HX3:=hzz (HXB.out.keepL hk3);have HC:=hzz (HMB.out w3 hs3 (HK3.out.bnd hB))
   clear hs3 hk3 HMB HNN j0 j1 j2 j3 j4 j5 j6;obtain⟨j0,j1,j2,j3,j4,j5,j6,-,-,-,-,-,-⟩:=HX3.out.box;dsimp only at j0 j1 j2 j3 j4 j5 j6
   go_wp2_with fail
   refine HC.out.mono ?_;rintro e w4 ⟨rfl,hs4,hk4⟩
   go_wp2_with fail
   go_ret;rw[HRR.out];exact⟨rfl,hs4,HK3.out.trans hk4⟩
  have t0:(n==0)=false:=by simpa using hn0
  have hbb:b=false:=by rw[hb];exact decide_eq_false (fun h=>hn0 h.1)
  subst hbb;clear hb hn0;go_enter Tryz.func119,Tryz.ntmps119
  go_upto_region 1 with fail
  generalize w.alloc _=W at*;obtain⟨j0,j1,j2,j3,j4,j5,j6,-,-,-,-,-,-⟩:=HXB.out.box;dsimp only at j0 j1 j2 j3 j4 j5 j6
  go_wp2_with fail
  refine(HNN.out W HS1.out).mono ?_;rintro e w3 ⟨rfl,hs3,hk3⟩;have HK3:=hzz (HK0.out.trans hk3);have HX3:=hzz (HXB.out.keepL hk3);have HC:=hzz (HMB.out w3 hs3 (HK3.out.bnd hB))
  clear hs3 hk3 HMB HNN j0 j1 j2 j3 j4 j5 j6;obtain⟨j0,j1,j2,j3,j4,j5,j6,-,-,-,-,-,-⟩:=HX3.out.box;dsimp only at j0 j1 j2 j3 j4 j5 j6
  go_wp2_with fail
  refine HC.out.mono ?_;rintro e w4 ⟨rfl,hs4,hk4⟩
  go_wp2_with fail
  go_ret;rw[HRR.out];exact⟨rfl,hs4,HK3.out.trans hk4⟩
 have e178:((op:Int)==178)=false:=by rw[beq_eq_false_iff_ne];omega
 have o178:=hop;clear hop;by_cases hop:op=179
 ·have e179:((op:Int)==179)=true:=by rw[hop];rfl
  have HRR:=hzz (show R=(s.need (A3d ⟨op,n,m,cl,nm,ds,tx⟩) 8).member ⟨op,n,m,cl,nm,ds,tx⟩ 9 typeB by
   rw[HR.out];unfold LW.wide;rw[if_pos (show A6k op=true by rw[hop];decide)])
  clear HR hop
  have HMB:=hzz (fun w3 hs hB3=>A4q w3 B g (s.need (A3d ⟨op,n,m,cl,nm,ds,tx⟩) 8) ⟨op,n,m,cl,nm,ds,tx⟩ 9 23 typeB (fun args W=>rfl) (fun W s h1 h2=>A2v W s h1 h2) hs HF.out hn hB3 (by decide))
  dsimp only[IN.cells]at HMB;obtain⟨b,hb⟩:=exz (A3d ⟨op,n,m,cl,nm,ds,tx⟩);rw[<-hb]at HRR HMB;unfold A3d at hb;dsimp only at hb
  generalize(s.need b 8).member ⟨op,n,m,cl,nm,ds,tx⟩ 9 typeB=Q at*;have HNN:=hzz (fun W (h:LoS W B g s)=>A0v W B g s b 8 h);by_cases hn0:n=0
  ·have t0:(n==0)=true:=by rw[hn0];rfl
   by_cases hm0:m=0
   ·have t1:(m==0)=true:=by rw[hm0];rfl
    obtain⟨bt,hbt⟩:=exz (decide (tx=[]));have t2:(tx==[])=bt:=by rw[hbt,Bool.eq_iff_iff,beq_iff_eq,decide_eq_true_iff]
    have t3:tx.isEmpty=bt:=by rw[hbt,Bool.eq_iff_iff,List.isEmpty_iff,decide_eq_true_iff]
    have hbb:b=bt:=by rw[hb,hbt];simp[hn0,hm0]
    subst hbb;clear hb hbt hn0 hm0;go_enter Tryz.func119,Tryz.ntmps119
    go_upto_region 1 with fail
    generalize w.alloc _=W at*;obtain⟨j0,j1,j2,j3,j4,j5,j6,-,-,-,-,-,-⟩:=HXB.out.box;dsimp only at j0 j1 j2 j3 j4 j5 j6
    go_wp2_with fail
    refine(HNN.out W HS1.out).mono ?_;rintro e w3 ⟨rfl,hs3,hk3⟩;have HK3:=hzz (HK0.out.trans hk3);have HX3:=hzz (HXB.out.keepL hk3);have HC:=hzz (HMB.out w3 hs3 (HK3.out.bnd hB))
    clear hs3 hk3 HMB HNN j0 j1 j2 j3 j4 j5 j6;obtain⟨j0,j1,j2,j3,j4,j5,j6,-,-,-,-,-,-⟩:=HX3.out.box;dsimp only at j0 j1 j2 j3 j4 j5 j6
    go_wp2_with fail
    refine HC.out.mono ?_;rintro e w4 ⟨rfl,hs4,hk4⟩
    go_wp2_with fail
    go_ret;rw[HRR.out];exact⟨rfl,hs4,HK3.out.trans hk4⟩
   have t1:(m==0)=false:=by simpa using hm0
   have hbb:b=false:=by rw[hb];exact decide_eq_false (fun h=>hm0 h.2.1)
   subst hbb;clear hb hn0 hm0;go_enter Tryz.func119,Tryz.ntmps119
   go_upto_region 1 with fail
   generalize w.alloc _=W at*;obtain⟨j0,j1,j2,j3,j4,j5,j6,-,-,-,-,-,-⟩:=HXB.out.box;dsimp only at j0 j1 j2 j3 j4 j5 j6
   go_wp2_with fail
   refine(HNN.out W HS1.out).mono ?_;rintro e w3 ⟨rfl,hs3,hk3⟩;have HK3:=hzz (HK0.out.trans hk3);have HX3:=hzz (HXB.out.keepL hk3);have HC:=hzz (HMB.out w3 hs3 (HK3.out.bnd hB))
   clear hs3 hk3 HMB HNN j0 j1 j2 j3 j4 j5 j6;obtain⟨j0,j1,j2,j3,j4,j5,j6,-,-,-,-,-,-⟩:=HX3.out.box;dsimp only at j0 j1 j2 j3 j4 j5 j6
   go_wp2_with fail
   refine HC.out.mono ?_;rintro e w4 ⟨rfl,hs4,hk4⟩
   go_wp2_with fail
   go_ret;rw[HRR.out];exact⟨rfl,hs4,HK3.out.trans hk4⟩
  have t0:(n==0)=false:=by simpa using hn0
  have hbb:b=false:=by rw[hb];exact decide_eq_false (fun h=>hn0 h.1)
  subst hbb;clear hb hn0;go_enter Tryz.func119,Tryz.ntmps119
  go_upto_region 1 with fail
  generalize w.alloc _=W at*;obtain⟨j0,j1,j2,j3,j4,j5,j6,-,-,-,-,-,-⟩:=HXB.out.box;dsimp only at j0 j1 j2 j3 j4 j5 j6
  go_wp2_with fail
  refine(HNN.out W HS1.out).mono ?_;rintro e w3 ⟨rfl,hs3,hk3⟩;have HK3:=hzz (HK0.out.trans hk3);have HX3:=hzz (HXB.out.keepL hk3);have HC:=hzz (HMB.out w3 hs3 (HK3.out.bnd hB))
  clear hs3 hk3 HMB HNN j0 j1 j2 j3 j4 j5 j6;obtain⟨j0,j1,j2,j3,j4,j5,j6,-,-,-,-,-,-⟩:=HX3.out.box;dsimp only at j0 j1 j2 j3 j4 j5 j6
  go_wp2_with fail
  refine HC.out.mono ?_;rintro e w4 ⟨rfl,hs4,hk4⟩
  go_wp2_with fail
  go_ret;rw[HRR.out];exact⟨rfl,hs4,HK3.out.trans hk4⟩
 have e179:((op:Int)==179)=false:=by rw[beq_eq_false_iff_ne];omega
 have o179:=hop;clear hop;by_cases hop:op=180
 ·have e180:((op:Int)==180)=true:=by rw[hop];rfl
  have HRR:=hzz (show R=(s.need (A3d ⟨op,n,m,cl,nm,ds,tx⟩) 8).member ⟨op,n,m,cl,nm,ds,tx⟩ 9 typeB by
   rw[HR.out];unfold LW.wide;rw[if_pos (show A6k op=true by rw[hop];decide)])
  clear HR hop
  have HMB:=hzz (fun w3 hs hB3=>A4q w3 B g (s.need (A3d ⟨op,n,m,cl,nm,ds,tx⟩) 8) ⟨op,n,m,cl,nm,ds,tx⟩ 9 23 typeB (fun args W=>rfl) (fun W s h1 h2=>A2v W s h1 h2) hs HF.out hn hB3 (by decide))
  dsimp only[IN.cells]at HMB;obtain⟨b,hb⟩:=exz (A3d ⟨op,n,m,cl,nm,ds,tx⟩);rw[<-hb]at HRR HMB;unfold A3d at hb;dsimp only at hb
  generalize(s.need b 8).member ⟨op,n,m,cl,nm,ds,tx⟩ 9 typeB=Q at*;have HNN:=hzz (fun W (h:LoS W B g s)=>A0v W B g s b 8 h);by_cases hn0:n=0
  ·have t0:(n==0)=true:=by rw[hn0];rfl
   by_cases hm0:m=0
   ·have t1:(m==0)=true:=by rw[hm0];rfl
    obtain⟨bt,hbt⟩:=exz (decide (tx=[]));have t2:(tx==[])=bt:=by rw[hbt,Bool.eq_iff_iff,beq_iff_eq,decide_eq_true_iff]
    have t3:tx.isEmpty=bt:=by rw[hbt,Bool.eq_iff_iff,List.isEmpty_iff,decide_eq_true_iff]
    have hbb:b=bt:=by rw[hb,hbt];simp[hn0,hm0]
    subst hbb;clear hb hbt hn0 hm0;go_enter Tryz.func119,Tryz.ntmps119
    go_upto_region 1 with fail
    generalize w.alloc _=W at*;obtain⟨j0,j1,j2,j3,j4,j5,j6,-,-,-,-,-,-⟩:=HXB.out.box;dsimp only at j0 j1 j2 j3 j4 j5 j6
    go_wp2_with fail
    refine(HNN.out W HS1.out).mono ?_;rintro e w3 ⟨rfl,hs3,hk3⟩;have HK3:=hzz (HK0.out.trans hk3);have HX3:=hzz (HXB.out.keepL hk3);have HC:=hzz (HMB.out w3 hs3 (HK3.out.bnd hB))
    clear hs3 hk3 HMB HNN j0 j1 j2 j3 j4 j5 j6;obtain⟨j0,j1,j2,j3,j4,j5,j6,-,-,-,-,-,-⟩:=HX3.out.box;dsimp only at j0 j1 j2 j3 j4 j5 j6
    go_wp2_with fail
    refine HC.out.mono ?_;rintro e w4 ⟨rfl,hs4,hk4⟩
    go_wp2_with fail
    go_ret;rw[HRR.out];exact⟨rfl,hs4,HK3.out.trans hk4⟩
   have t1:(m==0)=false:=by simpa using hm0
   have hbb:b=false:=by rw[hb];exact decide_eq_false (fun h=>hm0 h.2.1)
   subst hbb;clear hb hn0 hm0;go_enter Tryz.func119,Tryz.ntmps119
   go_upto_region 1 with fail
   generalize w.alloc _=W at*;obtain⟨j0,j1,j2,j3,j4,j5,j6,-,-,-,-,-,-⟩:=HXB.out.box;dsimp only at j0 j1 j2 j3 j4 j5 j6
   go_wp2_with fail
   refine(HNN.out W HS1.out).mono ?_;rintro e w3 ⟨rfl,hs3,hk3⟩;have HK3:=hzz (HK0.out.trans hk3);have HX3:=hzz (HXB.out.keepL hk3);have HC:=hzz (HMB.out w3 hs3 (HK3.out.bnd hB))
   clear hs3 hk3 HMB HNN j0 j1 j2 j3 j4 j5 j6;obtain⟨j0,j1,j2,j3,j4,j5,j6,-,-,-,-,-,-⟩:=HX3.out.box;dsimp only at j0 j1 j2 j3 j4 j5 j6
   go_wp2_with fail
   refine HC.out.mono ?_;rintro e w4 ⟨rfl,hs4,hk4⟩
   go_wp2_with fail
   go_ret;rw[HRR.out];exact⟨rfl,hs4,HK3.out.trans hk4⟩
  have t0:(n==0)=false:=by simpa using hn0
  have hbb:b=false:=by rw[hb];exact decide_eq_false (fun h=>hn0 h.1)
  subst hbb;clear hb hn0;go_enter Tryz.func119,Tryz.ntmps119
  go_upto_region 1 with fail
  generalize w.alloc _=W at*;obtain⟨j0,j1,j2,j3,j4,j5,j6,-,-,-,-,-,-⟩:=HXB.out.box;dsimp only at j0 j1 j2 j3 j4 j5 j6
  go_wp2_with fail
  refine(HNN.out W HS1.out).mono ?_;rintro e w3 ⟨rfl,hs3,hk3⟩;have HK3:=hzz (HK0.out.trans hk3);have HX3:=hzz (HXB.out.keepL hk3);have HC:=hzz (HMB.out w3 hs3 (HK3.out.bnd hB))
  clear hs3 hk3 HMB HNN j0 j1 j2 j3 j4 j5 j6;obtain⟨j0,j1,j2,j3,j4,j5,j6,-,-,-,-,-,-⟩:=HX3.out.box;dsimp only at j0 j1 j2 j3 j4 j5 j6
  go_wp2_with fail
  refine HC.out.mono ?_;rintro e w4 ⟨rfl,hs4,hk4⟩
  go_wp2_with fail
  go_ret;rw[HRR.out];exact⟨rfl,hs4,HK3.out.trans hk4⟩
 have e180:((op:Int)==180)=false:=by rw[beq_eq_false_iff_ne];omega
 have o180:=hop;clear hop;by_cases hop:op=181
 ·have e181:((op:Int)==181)=true:=by rw[hop];rfl
  have HRR:=hzz (show R=(s.need (A3d ⟨op,n,m,cl,nm,ds,tx⟩) 8).member ⟨op,n,m,cl,nm,ds,tx⟩ 9 typeB by
   rw[HR.out];unfold LW.wide;rw[if_pos (show A6k op=true by rw[hop];decide)])
  clear HR hop
  have HMB:=hzz (fun w3 hs hB3=>A4q w3 B g (s.need (A3d ⟨op,n,m,cl,nm,ds,tx⟩) 8) ⟨op,n,m,cl,nm,ds,tx⟩ 9 23 typeB (fun args W=>rfl) (fun W s h1 h2=>A2v W s h1 h2) hs HF.out hn hB3 (by decide))
  dsimp only[IN.cells]at HMB;obtain⟨b,hb⟩:=exz (A3d ⟨op,n,m,cl,nm,ds,tx⟩);rw[<-hb]at HRR HMB;unfold A3d at hb;dsimp only at hb
  generalize(s.need b 8).member ⟨op,n,m,cl,nm,ds,tx⟩ 9 typeB=Q at*;have HNN:=hzz (fun W (h:LoS W B g s)=>A0v W B g s b 8 h);by_cases hn0:n=0
  ·have t0:(n==0)=true:=by rw[hn0];rfl
   by_cases hm0:m=0
   ·have t1:(m==0)=true:=by rw[hm0];rfl
    obtain⟨bt,hbt⟩:=exz (decide (tx=[]));have t2:(tx==[])=bt:=by rw[hbt,Bool.eq_iff_iff,beq_iff_eq,decide_eq_true_iff]
    have t3:tx.isEmpty=bt:=by rw[hbt,Bool.eq_iff_iff,List.isEmpty_iff,decide_eq_true_iff]
    have hbb:b=bt:=by rw[hb,hbt];simp[hn0,hm0]
    subst hbb;clear hb hbt hn0 hm0;go_enter Tryz.func119,Tryz.ntmps119
    go_upto_region 1 with fail
    generalize w.alloc _=W at*;obtain⟨j0,j1,j2,j3,j4,j5,j6,-,-,-,-,-,-⟩:=HXB.out.box;dsimp only at j0 j1 j2 j3 j4 j5 j6
    go_wp2_with fail
    refine(HNN.out W HS1.out).mono ?_;rintro e w3 ⟨rfl,hs3,hk3⟩;have HK3:=hzz (HK0.out.trans hk3);have HX3:=hzz (HXB.out.keepL hk3);have HC:=hzz (HMB.out w3 hs3 (HK3.out.bnd hB))
    clear hs3 hk3 HMB HNN j0 j1 j2 j3 j4 j5 j6;obtain⟨j0,j1,j2,j3,j4,j5,j6,-,-,-,-,-,-⟩:=HX3.out.box;dsimp only at j0 j1 j2 j3 j4 j5 j6
    go_wp2_with fail
    refine HC.out.mono ?_;rintro e w4 ⟨rfl,hs4,hk4⟩
    go_wp2_with fail
    go_ret;rw[HRR.out];exact⟨rfl,hs4,HK3.out.trans hk4⟩
   have t1:(m==0)=false:=by simpa using hm0
   have hbb:b=false:=by rw[hb];exact decide_eq_false (fun h=>hm0 h.2.1)
   subst hbb;clear hb hn0 hm0;go_enter Tryz.func119,Tryz.ntmps119
   go_upto_region 1 with fail
   generalize w.alloc _=W at*;obtain⟨j0,j1,j2,j3,j4,j5,j6,-,-,-,-,-,-⟩:=HXB.out.box;dsimp only at j0 j1 j2 j3 j4 j5 j6
   go_wp2_with fail
   refine(HNN.out W HS1.out).mono ?_;rintro e w3 ⟨rfl,hs3,hk3⟩;have HK3:=hzz (HK0.out.trans hk3);have HX3:=hzz (HXB.out.keepL hk3);have HC:=hzz (HMB.out w3 hs3 (HK3.out.bnd hB))
   clear hs3 hk3 HMB HNN j0 j1 j2 j3 j4 j5 j6;obtain⟨j0,j1,j2,j3,j4,j5,j6,-,-,-,-,-,-⟩:=HX3.out.box;dsimp only at j0 j1 j2 j3 j4 j5 j6
   go_wp2_with fail
   refine HC.out.mono ?_;rintro e w4 ⟨rfl,hs4,hk4⟩
   go_wp2_with fail
   go_ret;rw[HRR.out];exact⟨rfl,hs4,HK3.out.trans hk4⟩
  have t0:(n==0)=false:=by simpa using hn0
  have hbb:b=false:=by rw[hb];exact decide_eq_false (fun h=>hn0 h.1)
  subst hbb;clear hb hn0;go_enter Tryz.func119,Tryz.ntmps119
  go_upto_region 1 with fail
  generalize w.alloc _=W at*;obtain⟨j0,j1,j2,j3,j4,j5,j6,-,-,-,-,-,-⟩:=HXB.out.box;dsimp only at j0 j1 j2 j3 j4 j5 j6
  go_wp2_with fail
  refine(HNN.out W HS1.out).mono ?_;rintro e w3 ⟨rfl,hs3,hk3⟩;have HK3:=hzz (HK0.out.trans hk3);have HX3:=hzz (HXB.out.keepL hk3);have HC:=hzz (HMB.out w3 hs3 (HK3.out.bnd hB))
  clear hs3 hk3 HMB HNN j0 j1 j2 j3 j4 j5 j6;obtain⟨j0,j1,j2,j3,j4,j5,j6,-,-,-,-,-,-⟩:=HX3.out.box;dsimp only at j0 j1 j2 j3 j4 j5 j6
  go_wp2_with fail
  refine HC.out.mono ?_;rintro e w4 ⟨rfl,hs4,hk4⟩
  go_wp2_with fail
  go_ret;rw[HRR.out];exact⟨rfl,hs4,HK3.out.trans hk4⟩
 have e181:((op:Int)==181)=false:=by rw[beq_eq_false_iff_ne];omega
 have o181:=hop;clear hop;by_cases hop:op=182
 ·have e182:((op:Int)==182)=true:=by rw[hop];rfl
  have HRR:=hzz (show R=(s.need (A3d ⟨op,n,m,cl,nm,ds,tx⟩) 8).member ⟨op,n,m,cl,nm,ds,tx⟩ 10 A3k by
   rw[HR.out];unfold LW.wide;rw[if_neg (show ¬A6k op=true by rw[hop];decide),if_pos (show A9a op=true by rw[hop];decide)])
  clear HR hop
  have HMB:=hzz (fun w3 hs hB3=>A4q w3 B g (s.need (A3d ⟨op,n,m,cl,nm,ds,tx⟩) 8) ⟨op,n,m,cl,nm,ds,tx⟩ 10 52 A3k (fun args W=>rfl) (fun W s h1 h2=>A4t W s h1 h2) hs HF.out hn hB3 (by decide))
  dsimp only[IN.cells]at HMB;obtain⟨b,hb⟩:=exz (A3d ⟨op,n,m,cl,nm,ds,tx⟩);rw[<-hb]at HRR HMB;unfold A3d at hb;dsimp only at hb
  generalize(s.need b 8).member ⟨op,n,m,cl,nm,ds,tx⟩ 10 A3k=Q at*;have HNN:=hzz (fun W (h:LoS W B g s)=>A0v W B g s b 8 h);by_cases hn0:n=0
  ·have t0:(n==0)=true:=by rw[hn0];rfl
   by_cases hm0:m=0
   ·have t1:(m==0)=true:=by rw[hm0];rfl
    obtain⟨bt,hbt⟩:=exz (decide (tx=[]));have t2:(tx==[])=bt:=by rw[hbt,Bool.eq_iff_iff,beq_iff_eq,decide_eq_true_iff]
    have t3:tx.isEmpty=bt:=by rw[hbt,Bool.eq_iff_iff,List.isEmpty_iff,decide_eq_true_iff]
    have hbb:b=bt:=by rw[hb,hbt];simp[hn0,hm0]
    subst hbb;clear hb hbt hn0 hm0;go_enter Tryz.func119,Tryz.ntmps119
    go_upto_region 1 with fail
    generalize w.alloc _=W at*;obtain⟨j0,j1,j2,j3,j4,j5,j6,-,-,-,-,-,-⟩:=HXB.out.box;dsimp only at j0 j1 j2 j3 j4 j5 j6
    go_wp2_with fail
    refine(HNN.out W HS1.out).mono ?_;rintro e w3 ⟨rfl,hs3,hk3⟩;have HK3:=hzz (HK0.out.trans hk3);have HX3:=hzz (HXB.out.keepL hk3);have HC:=hzz (HMB.out w3 hs3 (HK3.out.bnd hB))
    clear hs3 hk3 HMB HNN j0 j1 j2 j3 j4 j5 j6;obtain⟨j0,j1,j2,j3,j4,j5,j6,-,-,-,-,-,-⟩:=HX3.out.box;dsimp only at j0 j1 j2 j3 j4 j5 j6
    go_wp2_with fail
    refine HC.out.mono ?_;rintro e w4 ⟨rfl,hs4,hk4⟩
    go_wp2_with fail
    go_ret;rw[HRR.out];exact⟨rfl,hs4,HK3.out.trans hk4⟩
   have t1:(m==0)=false:=by simpa using hm0
   have hbb:b=false:=by rw[hb];exact decide_eq_false (fun h=>hm0 h.2.1)
   subst hbb;clear hb hn0 hm0;go_enter Tryz.func119,Tryz.ntmps119
   go_upto_region 1 with fail
   generalize w.alloc _=W at*;obtain⟨j0,j1,j2,j3,j4,j5,j6,-,-,-,-,-,-⟩:=HXB.out.box;dsimp only at j0 j1 j2 j3 j4 j5 j6
   go_wp2_with fail
   refine(HNN.out W HS1.out).mono ?_;rintro e w3 ⟨rfl,hs3,hk3⟩;have HK3:=hzz (HK0.out.trans hk3);have HX3:=hzz (HXB.out.keepL hk3);have HC:=hzz (HMB.out w3 hs3 (HK3.out.bnd hB))
   clear hs3 hk3 HMB HNN j0 j1 j2 j3 j4 j5 j6;obtain⟨j0,j1,j2,j3,j4,j5,j6,-,-,-,-,-,-⟩:=HX3.out.box;dsimp only at j0 j1 j2 j3 j4 j5 j6
   go_wp2_with fail
   refine HC.out.mono ?_;rintro e w4 ⟨rfl,hs4,hk4⟩
   go_wp2_with fail
   go_ret;rw[HRR.out];exact⟨rfl,hs4,HK3.out.trans hk4⟩
  have t0:(n==0)=false:=by simpa using hn0
  have hbb:b=false:=by rw[hb];exact decide_eq_false (fun h=>hn0 h.1)
  subst hbb;clear hb hn0;go_enter Tryz.func119,Tryz.ntmps119
  go_upto_region 1 with fail
  generalize w.alloc _=W at*;obtain⟨j0,j1,j2,j3,j4,j5,j6,-,-,-,-,-,-⟩:=HXB.out.box;dsimp only at j0 j1 j2 j3 j4 j5 j6
  go_wp2_with fail
  refine(HNN.out W HS1.out).mono ?_;rintro e w3 ⟨rfl,hs3,hk3⟩;have HK3:=hzz (HK0.out.trans hk3);have HX3:=hzz (HXB.out.keepL hk3);have HC:=hzz (HMB.out w3 hs3 (HK3.out.bnd hB))
  clear hs3 hk3 HMB HNN j0 j1 j2 j3 j4 j5 j6;obtain⟨j0,j1,j2,j3,j4,j5,j6,-,-,-,-,-,-⟩:=HX3.out.box;dsimp only at j0 j1 j2 j3 j4 j5 j6
  go_wp2_with fail
  refine HC.out.mono ?_;rintro e w4 ⟨rfl,hs4,hk4⟩
  go_wp2_with fail
  go_ret;rw[HRR.out];exact⟨rfl,hs4,HK3.out.trans hk4⟩
 have e182:((op:Int)==182)=false:=by rw[beq_eq_false_iff_ne];omega
 have o182:=hop;clear hop;by_cases hop:op=184
 ·have e184:((op:Int)==184)=true:=by rw[hop];rfl
  have HRR:=hzz (show R=(s.need (A3d ⟨op,n,m,cl,nm,ds,tx⟩) 8).member ⟨op,n,m,cl,nm,ds,tx⟩ 10 A3k by
   rw[HR.out];unfold LW.wide;rw[if_neg (show ¬A6k op=true by rw[hop];decide),if_pos (show A9a op=true by rw[hop];decide)])
  clear HR hop
  have HMB:=hzz (fun w3 hs hB3=>A4q w3 B g (s.need (A3d ⟨op,n,m,cl,nm,ds,tx⟩) 8) ⟨op,n,m,cl,nm,ds,tx⟩ 10 52 A3k (fun args W=>rfl) (fun W s h1 h2=>A4t W s h1 h2) hs HF.out hn hB3 (by decide))
  dsimp only[IN.cells]at HMB;obtain⟨b,hb⟩:=exz (A3d ⟨op,n,m,cl,nm,ds,tx⟩);rw[<-hb]at HRR HMB;unfold A3d at hb;dsimp only at hb
  generalize(s.need b 8).member ⟨op,n,m,cl,nm,ds,tx⟩ 10 A3k=Q at*;have HNN:=hzz (fun W (h:LoS W B g s)=>A0v W B g s b 8 h);by_cases hn0:n=0
  ·have t0:(n==0)=true:=by rw[hn0];rfl
   by_cases hm0:m=0
   ·have t1:(m==0)=true:=by rw[hm0];rfl
    obtain⟨bt,hbt⟩:=exz (decide (tx=[]));have t2:(tx==[])=bt:=by rw[hbt,Bool.eq_iff_iff,beq_iff_eq,decide_eq_true_iff]
    have t3:tx.isEmpty=bt:=by rw[hbt,Bool.eq_iff_iff,List.isEmpty_iff,decide_eq_true_iff]
    have hbb:b=bt:=by rw[hb,hbt];simp[hn0,hm0]
    subst hbb;clear hb hbt hn0 hm0;go_enter Tryz.func119,Tryz.ntmps119
    go_upto_region 1 with fail
    generalize w.alloc _=W at*;obtain⟨j0,j1,j2,j3,j4,j5,j6,-,-,-,-,-,-⟩:=HXB.out.box;dsimp only at j0 j1 j2 j3 j4 j5 j6
    go_wp2_with fail
    refine(HNN.out W HS1.out).mono ?_;rintro e w3 ⟨rfl,hs3,hk3⟩;have HK3:=hzz (HK0.out.trans hk3);have HX3:=hzz (HXB.out.keepL hk3);have HC:=hzz (HMB.out w3 hs3 (HK3.out.bnd hB))
    clear hs3 hk3 HMB HNN j0 j1 j2 j3 j4 j5 j6;obtain⟨j0,j1,j2,j3,j4,j5,j6,-,-,-,-,-,-⟩:=HX3.out.box;dsimp only at j0 j1 j2 j3 j4 j5 j6
    go_wp2_with fail
    refine HC.out.mono ?_;rintro e w4 ⟨rfl,hs4,hk4⟩
    go_wp2_with fail
    go_ret;rw[HRR.out];exact⟨rfl,hs4,HK3.out.trans hk4⟩
   have t1:(m==0)=false:=by simpa using hm0
   have hbb:b=false:=by rw[hb];exact decide_eq_false (fun h=>hm0 h.2.1)
   subst hbb;clear hb hn0 hm0;go_enter Tryz.func119,Tryz.ntmps119
   go_upto_region 1 with fail
   generalize w.alloc _=W at*;obtain⟨j0,j1,j2,j3,j4,j5,j6,-,-,-,-,-,-⟩:=HXB.out.box;dsimp only at j0 j1 j2 j3 j4 j5 j6
   go_wp2_with fail
   refine(HNN.out W HS1.out).mono ?_;rintro e w3 ⟨rfl,hs3,hk3⟩;have HK3:=hzz (HK0.out.trans hk3);have HX3:=hzz (HXB.out.keepL hk3);have HC:=hzz (HMB.out w3 hs3 (HK3.out.bnd hB))
   clear hs3 hk3 HMB HNN j0 j1 j2 j3 j4 j5 j6;obtain⟨j0,j1,j2,j3,j4,j5,j6,-,-,-,-,-,-⟩:=HX3.out.box;dsimp only at j0 j1 j2 j3 j4 j5 j6
   go_wp2_with fail
   refine HC.out.mono ?_;rintro e w4 ⟨rfl,hs4,hk4⟩
   go_wp2_with fail
   go_ret;rw[HRR.out];exact⟨rfl,hs4,HK3.out.trans hk4⟩
  have t0:(n==0)=false:=by simpa using hn0
  have hbb:b=false:=by rw[hb];exact decide_eq_false (fun h=>hn0 h.1)
  subst hbb;clear hb hn0;go_enter Tryz.func119,Tryz.ntmps119
  go_upto_region 1 with fail
  generalize w.alloc _=W at*;obtain⟨j0,j1,j2,j3,j4,j5,j6,-,-,-,-,-,-⟩:=HXB.out.box;dsimp only at j0 j1 j2 j3 j4 j5 j6
  go_wp2_with fail
  refine(HNN.out W HS1.out).mono ?_;rintro e w3 ⟨rfl,hs3,hk3⟩;have HK3:=hzz (HK0.out.trans hk3);have HX3:=hzz (HXB.out.keepL hk3);have HC:=hzz (HMB.out w3 hs3 (HK3.out.bnd hB))
  clear hs3 hk3 HMB HNN j0 j1 j2 j3 j4 j5 j6;obtain⟨j0,j1,j2,j3,j4,j5,j6,-,-,-,-,-,-⟩:=HX3.out.box;dsimp only at j0 j1 j2 j3 j4 j5 j6
  go_wp2_with fail
  refine HC.out.mono ?_;rintro e w4 ⟨rfl,hs4,hk4⟩
  go_wp2_with fail
  go_ret;rw[HRR.out];exact⟨rfl,hs4,HK3.out.trans hk4⟩
 have e184:((op:Int)==184)=false:=by rw[beq_eq_false_iff_ne];omega
 have o184:=hop;clear hop
 have HRR:=hzz (show R=(s.need (B0x ⟨op,n,m,cl,nm,ds,tx⟩) 8).cls cl (decide (op≠187)) by
  rw[HR.out];unfold LW.wide;rw[if_neg (show ¬A6k op=true by unfold A6k;simp[o178,o179,o180,o181]),if_neg (show ¬A9a op=true by unfold A9a;simp[o182,o184])])
 have hg:=B2e
 have he:∀W,(Op.equalIn 10000 A2e (.agg #[.int .u8 (op:Nat),.int .i64 n,.int .i64 m,.string ⟨cl.toArray⟩,.string ⟨nm.toArray⟩,.string ⟨ds.toArray⟩,.string ⟨tx.toArray⟩]) (.agg #[.int .u8 (op:Nat),.int .i64 0,.int .i64 0,.string ⟨cl.toArray⟩,.string ⟨#[]⟩,.string ⟨#[]⟩,.string ⟨#[]⟩])).run Tryz.prog W= .ok (B0x ⟨op,n,m,cl,nm,ds,tx⟩) W:=fun W=>by
  have h:=HEQ W ⟨op,0,0,cl,[],[],[]⟩;rw[show A9z ⟨op,n,m,cl,nm,ds,tx⟩ ⟨op,0,0,cl,[],[],[]⟩=B0x ⟨op,n,m,cl,nm,ds,tx⟩ by unfold A9z B0x;simp]at h;exact h
 obtain⟨b,hb⟩:=exz (B0x ⟨op,n,m,cl,nm,ds,tx⟩);rw[<-hb]at HRR he;obtain⟨ar,har⟩:=exz (decide (op≠187));rw[<-har]at HRR
 have hne:((op:Int) !=187)=ar:=by
  rw[har];by_cases h:op=187
  ·subst h;rfl
  have:¬(op:Int)=187:=by omega
  simp[h,this]
 have HCL:=hzz (fun w3 hs hB3=>A3w w3 B g (s.need b 8) cl ar hs HF.out.cl (show s.l.length<=_ by omega) hB3);generalize(s.need b 8).cls cl ar=Q at*
 have HNN:=hzz (fun W (h:LoS W B g s)=>A0v W B g s b 8 h);clear hb har o178 o179 o180 o181 o182 o184 HEQ HR;go_enter Tryz.func119,Tryz.ntmps119
 go_upto_region 1 with fail
 generalize w.alloc _=W at*;obtain⟨j0,j1,j2,j3,j4,j5,j6,-,-,-,-,-,-⟩:=HXB.out.box;dsimp only at j0 j1 j2 j3 j4 j5 j6
 go_wp2_with fail
 refine(HNN.out W HS1.out).mono ?_;rintro e w3 ⟨rfl,hs3,hk3⟩;have HK3:=hzz (HK0.out.trans hk3);have HX3:=hzz (HXB.out.keepL hk3);have HC:=hzz (HCL.out w3 hs3 (HK3.out.bnd hB))
 clear hs3 hk3 HCL HNN j0 j1 j2 j3 j4 j5 j6;obtain⟨j0,j1,j2,j3,j4,j5,j6,-,-,-,-,-,-⟩:=HX3.out.box;dsimp only at j0 j1 j2 j3 j4 j5 j6
 go_wp2_with fail
 refine HC.out.mono ?_;rintro e w4 ⟨rfl,hs4,hk4⟩
 go_wp2_with fail
 go_ret;rw[HRR.out];exact⟨rfl,hs4,HK3.out.trans hk4⟩
def D5c(B:Nat)(a:Option Addr)(n:Nat):Prop:=0<n->∀b off,a=some ⟨b,off,none⟩->b<B
theorem A0u.ss{B:Nat}{α:Type}{z:Nat}{enc:α->List Value}{w w':World}{x:Option Addr}{n:Nat}{xs:List α}(h:A0u B w w')(hs:Ss z enc w x n xs)(h1:D5c B x n):Ss z enc w' x n xs:=by
 refine⟨hs.1,fun hn=> ?_⟩;obtain⟨b,off,ha,hlt,hc⟩:=hs.2 hn;refine⟨b,off,ha,Nat.lt_of_lt_of_le hlt h.size,fun i hi j hj=> ?_⟩;rw[<-hc i hi j hj];unfold World.cell?
 rw[h.block b hlt (.inl (h1 hn b off ha))]
theorem A0u.sl{B:Nat}{α:Type}{enc:α->Value}{w w':World}{x:Option Addr}{n:Nat}{xs:List α}(h:A0u B w w')(hs:Sl enc w x n xs)(h1:D5c B x n):Sl enc w' x n xs:=by
 refine⟨hs.1,fun hn=> ?_⟩;obtain⟨b,off,ha,hlt,hc⟩:=hs.2 hn;refine⟨b,off,ha,Nat.lt_of_lt_of_le hlt h.size,fun i hi=> ?_⟩;rw[<-hc i hi];unfold World.cell?;rw[h.block b hlt (.inl (h1 hn b off ha))]
theorem A0u.thenB{B:Nat}{w W w9:World}(h:A0u B w W)(hb:Below w.heap.size W w9):A0u B w w9:=
 ⟨hb.os.trans h.os,hb.tape.trans h.tape,hb.output.trans h.output,Nat.le_trans h.size hb.size,fun k hk hg=>by rw[hb.block k hk,h.block k hk hg]⟩
theorem LoS.app{w w9:World}{B g:Nat}{s:LW}{o:Obj}{B':Nat}{e:TypeId}{size:Nat}{v:Value}{n:Nat}{xs:List Value}(h:LoS w B g s)(ho:w.ownsRow B' e size v n xs)(hg:(w.alloc o).grownBy w9 v.ownBlock)(h1:e≠A6e)(h2:e≠B3f)(h3:0<B'):LoS w9 B g s:=by
 obtain⟨a,cap,b,h⟩:=h;have hkt:=A2p.app ho hg;have hal:=A0f w o
 refine⟨a,cap,b,⟨hkt.2 _ _ _ _ h.k (Ne.symm h2),A0k h.o hkt (Ne.symm h1),(h.m.below hal).kept hg (D4p (A0x ho hal) (h.m.below hal).obj),h.bB,h.gB,h.B0,?_⟩⟩;obtain⟨m,hm⟩:=h.vw
 refine⟨m,?_⟩
 have hlt:0<w.heap.size:=by
  rcases Nat.eq_zero_or_pos w.heap.size with h1|h1
  ·exfalso;have:w.heap[0]? =none:=Array.getElem?_eq_none (by omega);simp[World.cell?,this]at hm
  exact h1
 rw[<-hm];unfold World.cell?;rw[hg.block 0 (Nat.lt_of_lt_of_le hlt hal.size) (fun e9=>by have:=(ho.lt 0 e9.symm).1;omega),hal.block 0 hlt]
theorem C6h(s:LW)(l:List (List UInt8))(t:List UInt8):s.slots (l++[t])=((((s.slots l).1).slot t).1,(s.slots l).2++[(((s.slots l).1).slot t).2]):=by
 induction l generalizing s with
 |nil=>rfl
 |cons x l ih=>
  rw[List.cons_append,LW.slots,LW.slots,ih];rfl
theorem B0u(s:LW)(l:List (List UInt8)):(s.slots l).1.l.length<=s.l.length+4*l.length:=by
 induction l generalizing s with
 |nil=>exact Nat.le_refl _
 |cons x l ih=>
  rw[LW.slots];have h1:=D1v s x;have h2:=ih (s.slot x).1;simp only[List.length_cons];omega
theorem B9d(s:LW)(l:List (List UInt8)):(s.slots l).2.length=l.length:=by
 induction l generalizing s with
 |nil=>rfl
 |cons x l ih=>
  rw[LW.slots,List.length_cons,List.length_cons,ih]
theorem B2a:StE 66 174 (.agg #[.int .i64 0,.int .i64 0]) 2 16:=⟨by kernel_rfl,by kernel_rfl,rfl⟩
theorem A8w.keepL{B:Nat}{w w':World}{g:Nat}{x y:Value}{t:TypeId}(h:A8w w g x y t)(hk:A0u B w w')(h1:t≠A6e)(h2:t≠B3f):A8w w' g x y t:=hk.row h h1 h2
theorem LoS.setO{w:World}{B g:Nat}{s:LW}{h9:Nat}{cs:Array Value}{t:TypeId}{fr:Nat×Nat}(h:LoS w B g s)(hx:w.heap[h9]? =some (.cells cs t fr))(h1:t≠A6e)(h2:t≠B3f)(h0:0<h9)(o:Nat)(v:Value):LoS (w.setCell ⟨h9,o,none⟩ v) B g s:=by
 obtain⟨a,cap,b,h⟩:=h;have hkt:=A1p hx o v
 have hne:b≠h9:=by
  rintro rfl;obtain⟨es,cl,hm⟩:=h.m.obj;rw[hm]at hx
  cases hx
 refine⟨a,cap,b,⟨hkt.2 _ _ _ _ h.k (Ne.symm h2),A0k h.o hkt (Ne.symm h1),h.m.setCell hne _,h.bB,h.gB,h.B0,?_⟩⟩;obtain⟨m,hm⟩:=h.vw;refine⟨m,?_⟩;rw[<-hm];unfold World.cell? World.setCell
 have:¬h9=0:=by omega
 simp[Array.getElem?_modify,this]
theorem Sl.getE{α:Type}{enc:α->Value}{w:World}{a:Option Addr}{n:Nat}{xs:List α}(h:Sl enc w a n xs)(j:Nat)(hj:j<n):∃b off x,a=some ⟨b,off,none⟩/\b<w.heap.size/\xs[j]? =some x/\w.cell? ⟨b,off+j,none⟩=some (enc x):=by
 obtain⟨b,off,ha,hlt,hc⟩:=h.2 (by omega);have hl:j<xs.length:=by rw[h.1];exact hj
 exact⟨b,off,xs[j],ha,hlt,List.getElem?_eq_getElem hl,hc j hl⟩
theorem A9m{w:World}{B:Nat}{e:TypeId}{size:Nat}{v:Value}{n:Nat}{xs:List Value}{g:Nat}(h:w.ownsRow B e size v n xs)(hne:∀k,v.ownBlock=some k->k≠g)(o:Nat)(u:Value):(w.setCell ⟨g,o,none⟩ u).ownsRow B e size v n xs:=by
 refine⟨h.1,?_⟩
 rcases h.2 with h1|⟨b,cap,cur,hv,hB,hc,r⟩
 ·exact .inl h1
 exact .inr ⟨b,cap,cur,hv,hB,A1r hc (hne b (by rw[hv];rfl)) o u,r⟩
theorem C3j(t:List UInt8):(B7q t).length<=t.length:=by
 unfold B7q;split
 ·rw[List.length_drop,List.length_take];omega
 simp
def B7b(B g:Nat)(s:LW)(l:List (List UInt8))(n:Nat)(w:World)(e:Ending)(w':World):Prop:=
 ∃oa oc,e= .returned (.slice oa n oc)/\w'.ownsRow w.heap.size 174 2 (.slice oa n oc) n ((s.slots l).2.flatMap KS.cells)/\LoS w' B g (s.slots l).1/\A0u B w w'
theorem B4h(w:World)(B g:Nat)(s:LW)(a:Option Addr)(n cap:Nat)(l:List (List UInt8))(h:LoS w B g s)(hl:Sl B0d w a n l)(hb:D5c B a n)(hf:∀t∈l,t.length<=65536)(hn:n<=1024)(hsz:s.l.length<=999999000000)(hB:B<=w.heap.size)(hB0:0<B):
  Calls Tryz.prog 75 #[.pointer (some ⟨g,0,none⟩),.slice a n cap] w (B7b B g s l n w):=by
 have HS0:=hzz h;have HL:=hzz hl;have HLn:=hzz hl.1;have HLB:=hzz hb;have HF:=hzz hf;have HBW:=hzz hB;have hw0:0<w.heap.size:=by omega
 clear h hl hb hf hB;go_enter Tryz.func75,Tryz.ntmps75
 go_wp2_with fail
 go_loopg [5,13] n (fun gn ov i wr=>∃(j:Nat) (oa:Option Addr) (oc:Nat),j<=n/\gn=n-j/\ov= .slice oa j oc/\i= .int .i64 j/\Hid (LoS wr B g (s.slots (l.take j)).1)/\Hid (A0u B w wr)/\Hid (wr.ownsRow w.heap.size 174 2 (.slice oa j oc) j ((s.slots (l.take j)).2.flatMap KS.cells)))
 case atStart=>exact⟨0,none,0,by omega,by omega,rfl,by go_num,HS0,hzz (A0u.refl _ _),hzz (World.ownsRow_nil _ _ _ _)⟩
 obtain⟨j,oa,oc,hj,rfl,rfl,rfl,HS,HK,HO⟩:=hrel;have hwr:w.heap.size<=wr.heap.size:=HK.out.size;by_cases hlt:j<n
 ·obtain⟨b,off,t,rfl,hbl,ht,q⟩:=(HK.out.sl HL.out HLB.out).getE j hlt;unfold B0d at q;have hj1:(j:Int)<n:=by omega
  have HT:=hzz (HF.out t (List.mem_of_getElem? ht))
  have HSN:=hzz (show s.slots (l.take (j+1))=((((s.slots (l.take j)).1).slot t).1,(s.slots (l.take j)).2++[(((s.slots (l.take j)).1).slot t).2]) by
   have hjl:=(gsz ht).1;rw[List.take_succ_eq_append_getElem hjl,(gsz ht).2,C6h])
  have hlen:((s.slots (l.take j)).1).l.length<=s.l.length+4*j:=by
   have h1:=B0u s (l.take j);rw[List.length_take,HLn.out,Nat.min_eq_left hj]at h1;exact h1
  generalize s.slots (l.take j)=SJ at*;obtain⟨sj,lj⟩:=SJ;dsimp only at HS HO HSN hlen;obtain⟨RS,hRS⟩:=exz (sj.slot t);rw[<-hRS]at HSN;have HRS:=hzz hRS;clear hRS ht
  have HCO:=hzz (fun W=>C1a W t HT.out);have HIA:=hzz (fun W (hv:VW W)=>A8f W t HT.out hv)
  go_upto_region 6 with fail
  have hal:Below wr.heap.size wr (wr.alloc (.cells #[.int .i64 7,.int .i64 0] 174)):=A0f _ _
  have HSB:=hzz (show A8w (wr.alloc (.cells #[.int .i64 7,.int .i64 0] 174)) wr.heap.size (.int .i64 7) (.int .i64 0) 174 from heap_alloc_last wr _);have HS1:=hzz (HS.out.below hal)
  have HK1:=hzz (HK.out.trans (A0u.of hal));have HO1:=hzz (A0x HO.out hal);have hgs0:0<wr.heap.size:=by omega
  have HGN:=hzz (fun k (h:(Value.slice oa j oc).ownBlock=some k)=>Nat.ne_of_lt ((HO.out.lt k h).2));clear hal HS HK HO q hbl;generalize wr.alloc _=W at*;generalize wr.heap.size=gs at*
  obtain⟨ok,hok⟩:=exz (A9w t);have HOK:=hzz hok;rw[<-hok]at HCO;generalize hsv:B7q t=sv at*;have HSV:=hzz hsv;clear hok hsv;by_cases h84:t=[84]
  ·have HT84:=hzz h84;clear h84;have HRR:=hzz (show RS=(sj,⟨0,0⟩) by rw[HRS.out,HT84.out];rfl);have e84:(t==[84])=true:=by rw[HT84.out];rfl
   have e73:(t==[73])=false:=by rw[HT84.out];rfl
   have e74:(t==[74])=false:=by rw[HT84.out];rfl
   have e78:(t==[78])=false:=by rw[HT84.out];rfl
   obtain⟨c0,c1,f0,f1,lt⟩:=HSB.out.box
   go_wp2_with fail
   refine(HCO.out W).mono ?_;rintro e W0 ⟨rfl,hwq⟩;replace hwq:=hwq.symm;subst hwq
   go_upto_region 19 with fail
   have HBV:=hzz (show A8w (W.setCell ⟨gs,0,none⟩ (.int .i64 0)) gs (.int .i64 0) (.int .i64 0) 174 from HSB.out.set0);have HSVV:=hzz (HS1.out.setO HSB.out (by decide) (by decide) hgs0 0 (.int .i64 0))
   have HKV:=hzz (HK1.out.thenB (show Below w.heap.size W (W.setCell ⟨gs,0,none⟩ (.int .i64 0))from brz.setCell hwr _));have HOV:=hzz (A9m HO1.out HGN.out 0 (.int .i64 0))
   clear c0 c1 f0 f1 lt HSB HS1 HK1 HO1;generalize W.setCell ⟨gs,0,none⟩ (.int .i64 0)=V at*;have hjn:j<=1024:=by omega
   have HSZ:w.heap.size<=V.heap.size:=HKV.out.size;obtain⟨c0,c1,f0,f1,lt⟩:=HBV.out.box
   go_wp2_with (at_builtin;refine A0q B2a rfl _ _ rfl w.heap.size _ j _ rfl HOV.out _ 1 _ _ rfl (by simp) rfl rfl (by omega) (by unfold maxLen;omega) HSZ ?_;intro v9 w9 hown9 hg9 hb9;have hown8:w9.ownsRow w.heap.size 174 2 v9 (j+1) ((lj++[(⟨0,0⟩:KS)]).flatMap KS.cells):=(by rw[List.flatMap_append];exact hown9);obtain⟨a9,c9,rfl,-,-⟩:=Ss.ofOwn KS.cells_length (by decide) hown8;have HO9:=hzz hown8;have HS9:=hzz (HSVV.out.app HOV.out hg9 (by decide) (by decide) hw0);have HK9:=hzz (HKV.out.thenB hb9);clear hown9 hown8 hg9 hb9 c0 c1 f0 f1 lt)
   go_roundg (n-(j+1))
   case measure=>omega
   exact⟨j+1,_,_,by omega,rfl,rfl,by go_num,hzz (by rw[HSN.out,HRR.out];exact HS9.out),HK9,hzz (by rw[HSN.out,HRR.out];exact HO9.out)⟩
  by_cases h73:t=[73]
  ·have HT73:=hzz h73;clear h73;have HRR:=hzz (show RS=(sj,⟨1,0⟩) by rw[HRS.out,HT73.out];rfl);have e73:(t==[73])=true:=by rw[HT73.out];rfl
   have e84:(t==[84])=false:=by rw[HT73.out];rfl
   have e74:(t==[74])=false:=by rw[HT73.out];rfl
   have e78:(t==[78])=false:=by rw[HT73.out];rfl
   obtain⟨c0,c1,f0,f1,lt⟩:=HSB.out.box
   go_wp2_with fail
   refine(HCO.out W).mono ?_;rintro e W0 ⟨rfl,hwq⟩;replace hwq:=hwq.symm;subst hwq
   go_upto_region 19 with fail
   have HBV:=hzz (show A8w (W.setCell ⟨gs,0,none⟩ (.int .i64 1)) gs (.int .i64 1) (.int .i64 0) 174 from HSB.out.set0);have HSVV:=hzz (HS1.out.setO HSB.out (by decide) (by decide) hgs0 0 (.int .i64 1))
   have HKV:=hzz (HK1.out.thenB (show Below w.heap.size W (W.setCell ⟨gs,0,none⟩ (.int .i64 1))from brz.setCell hwr _));have HOV:=hzz (A9m HO1.out HGN.out 0 (.int .i64 1))
   clear c0 c1 f0 f1 lt HSB HS1 HK1 HO1;generalize W.setCell ⟨gs,0,none⟩ (.int .i64 1)=V at*;have hjn:j<=1024:=by omega
   have HSZ:w.heap.size<=V.heap.size:=HKV.out.size;obtain⟨c0,c1,f0,f1,lt⟩:=HBV.out.box
   go_wp2_with (at_builtin;refine A0q B2a rfl _ _ rfl w.heap.size _ j _ rfl HOV.out _ 1 _ _ rfl (by simp) rfl rfl (by omega) (by unfold maxLen;omega) HSZ ?_;intro v9 w9 hown9 hg9 hb9;have hown8:w9.ownsRow w.heap.size 174 2 v9 (j+1) ((lj++[(⟨1,0⟩:KS)]).flatMap KS.cells):=(by rw[List.flatMap_append];exact hown9);obtain⟨a9,c9,rfl,-,-⟩:=Ss.ofOwn KS.cells_length (by decide) hown8;have HO9:=hzz hown8;have HS9:=hzz (HSVV.out.app HOV.out hg9 (by decide) (by decide) hw0);have HK9:=hzz (HKV.out.thenB hb9);clear hown9 hown8 hg9 hb9 c0 c1 f0 f1 lt)
   go_roundg (n-(j+1))
   case measure=>omega
   exact⟨j+1,_,_,by omega,rfl,rfl,by go_num,hzz (by rw[HSN.out,HRR.out];exact HS9.out),HK9,hzz (by rw[HSN.out,HRR.out];exact HO9.out)⟩
  by_cases h74:t=[74]
  ·have HT74:=hzz h74;clear h74;have HRR:=hzz (show RS=(sj,⟨4,0⟩) by rw[HRS.out,HT74.out];rfl);have e74:(t==[74])=true:=by rw[HT74.out];rfl
   have e84:(t==[84])=false:=by rw[HT74.out];rfl
   have e73:(t==[73])=false:=by rw[HT74.out];rfl
   have e78:(t==[78])=false:=by rw[HT74.out];rfl
   obtain⟨c0,c1,f0,f1,lt⟩:=HSB.out.box
   go_wp2_with fail
   refine(HCO.out W).mono ?_;rintro e W0 ⟨rfl,hwq⟩;replace hwq:=hwq.symm;subst hwq
   go_upto_region 19 with fail
   have HBV:=hzz (show A8w (W.setCell ⟨gs,0,none⟩ (.int .i64 4)) gs (.int .i64 4) (.int .i64 0) 174 from HSB.out.set0);have HSVV:=hzz (HS1.out.setO HSB.out (by decide) (by decide) hgs0 0 (.int .i64 4))
   have HKV:=hzz (HK1.out.thenB (show Below w.heap.size W (W.setCell ⟨gs,0,none⟩ (.int .i64 4))from brz.setCell hwr _));have HOV:=hzz (A9m HO1.out HGN.out 0 (.int .i64 4))
   clear c0 c1 f0 f1 lt HSB HS1 HK1 HO1;generalize W.setCell ⟨gs,0,none⟩ (.int .i64 4)=V at*;have hjn:j<=1024:=by omega
   have HSZ:w.heap.size<=V.heap.size:=HKV.out.size;obtain⟨c0,c1,f0,f1,lt⟩:=HBV.out.box
   go_wp2_with (at_builtin;refine A0q B2a rfl _ _ rfl w.heap.size _ j _ rfl HOV.out _ 1 _ _ rfl (by simp) rfl rfl (by omega) (by unfold maxLen;omega) HSZ ?_;intro v9 w9 hown9 hg9 hb9;have hown8:w9.ownsRow w.heap.size 174 2 v9 (j+1) ((lj++[(⟨4,0⟩:KS)]).flatMap KS.cells):=(by rw[List.flatMap_append];exact hown9);obtain⟨a9,c9,rfl,-,-⟩:=Ss.ofOwn KS.cells_length (by decide) hown8;have HO9:=hzz hown8;have HS9:=hzz (HSVV.out.app HOV.out hg9 (by decide) (by decide) hw0);have HK9:=hzz (HKV.out.thenB hb9);clear hown9 hown8 hg9 hb9 c0 c1 f0 f1 lt)
   go_roundg (n-(j+1))
   case measure=>omega
   exact⟨j+1,_,_,by omega,rfl,rfl,by go_num,hzz (by rw[HSN.out,HRR.out];exact HS9.out),HK9,hzz (by rw[HSN.out,HRR.out];exact HO9.out)⟩
  by_cases h78:t=[78]
  ·have HT78:=hzz h78;clear h78;have HRR:=hzz (show RS=(sj,⟨5,0⟩) by rw[HRS.out,HT78.out];rfl);have e78:(t==[78])=true:=by rw[HT78.out];rfl
   have e84:(t==[84])=false:=by rw[HT78.out];rfl
   have e73:(t==[73])=false:=by rw[HT78.out];rfl
   have e74:(t==[74])=false:=by rw[HT78.out];rfl
   obtain⟨c0,c1,f0,f1,lt⟩:=HSB.out.box
   go_wp2_with fail
   refine(HCO.out W).mono ?_;rintro e W0 ⟨rfl,hwq⟩;replace hwq:=hwq.symm;subst hwq
   go_upto_region 19 with fail
   have HBV:=hzz (show A8w (W.setCell ⟨gs,0,none⟩ (.int .i64 5)) gs (.int .i64 5) (.int .i64 0) 174 from HSB.out.set0);have HSVV:=hzz (HS1.out.setO HSB.out (by decide) (by decide) hgs0 0 (.int .i64 5))
   have HKV:=hzz (HK1.out.thenB (show Below w.heap.size W (W.setCell ⟨gs,0,none⟩ (.int .i64 5))from brz.setCell hwr _));have HOV:=hzz (A9m HO1.out HGN.out 0 (.int .i64 5))
   clear c0 c1 f0 f1 lt HSB HS1 HK1 HO1;generalize W.setCell ⟨gs,0,none⟩ (.int .i64 5)=V at*;have hjn:j<=1024:=by omega
   have HSZ:w.heap.size<=V.heap.size:=HKV.out.size;obtain⟨c0,c1,f0,f1,lt⟩:=HBV.out.box
   go_wp2_with (at_builtin;refine A0q B2a rfl _ _ rfl w.heap.size _ j _ rfl HOV.out _ 1 _ _ rfl (by simp) rfl rfl (by omega) (by unfold maxLen;omega) HSZ ?_;intro v9 w9 hown9 hg9 hb9;have hown8:w9.ownsRow w.heap.size 174 2 v9 (j+1) ((lj++[(⟨5,0⟩:KS)]).flatMap KS.cells):=(by rw[List.flatMap_append];exact hown9);obtain⟨a9,c9,rfl,-,-⟩:=Ss.ofOwn KS.cells_length (by decide) hown8;have HO9:=hzz hown8;have HS9:=hzz (HSVV.out.app HOV.out hg9 (by decide) (by decide) hw0);have HK9:=hzz (HKV.out.thenB hb9);clear hown9 hown8 hg9 hb9 c0 c1 f0 f1 lt)
   go_roundg (n-(j+1))
   case measure=>omega
   exact⟨j+1,_,_,by omega,rfl,rfl,by go_num,hzz (by rw[HSN.out,HRR.out];exact HS9.out),HK9,hzz (by rw[HSN.out,HRR.out];exact HO9.out)⟩
  cases ok
  ·have HRR:=hzz (show RS=(((sj.need (A2g t) 8).cls t true).1,⟨7,(((sj.need (A2g t) 8).cls t true).2:Nat)⟩) by
    rw[HRS.out];unfold LW.slot
    rw[if_neg h84,if_neg h73,if_neg h74,if_neg h78,if_neg (fun h=>by rw[<-HOK.out]at h;cases h)])
   generalize A2g t=ab at*;have HC:=hzz (fun V hs hB9=>A3w V B g (sj.need ab 8) t true hs HT.out (show sj.l.length<=_ by omega) hB9)
   have HNN:=hzz (fun V (h:LoS V B g sj)=>A0v V B g sj ab 8 h);generalize(sj.need ab 8).cls t true=C5 at*;obtain⟨s5,i5⟩:=C5;dsimp only at HC HRR
   have HVV:=hzz (show VW W from by obtain⟨a,cap,b,h⟩:=HS1.out;exact h.vw);have e84:(t==[84])=false:=by simpa using h84
   have e73:(t==[73])=false:=by simpa using h73
   have e74:(t==[74])=false:=by simpa using h74
   have e78:(t==[78])=false:=by simpa using h78
   clear h84 h73 h74 h78
   go_wp2_with fail
   refine(HCO.out W).mono ?_;rintro e W0 ⟨rfl,hwq⟩;replace hwq:=hwq.symm;subst hwq
   go_wp2_with fail
   refine(HIA.out W HVV.out).mono ?_;rintro e V1 ⟨rfl,hb1⟩;have HB1:=hzz (show A8w V1 gs (.int .i64 7) (.int .i64 0) 174 from A0e HSB.out hb1);have HS2:=hzz (HS1.out.below hb1)
   have HK2:=hzz (HK1.out.trans (A0u.of hb1));have HO2:=hzz (A0x HO1.out hb1);clear hb1 HSB HS1 HK1 HO1
   go_wp2_with fail
   refine(HNN.out V1 HS2.out).mono ?_;rintro e V2 ⟨rfl,hs3,hk3⟩;have HB3:=hzz (HB1.out.keepL hk3 (by decide) (by decide));have HS3:=hzz hs3;have HK3:=hzz (HK2.out.trans hk3)
   have HO3:=hzz (A0u.own HO2.out hk3 (by decide) (by decide));clear hs3 hk3 HB1 HS2 HK2 HO2
   go_wp2_with fail
   refine(HC.out V2 HS3.out (Nat.le_trans HBW.out HK3.out.size)).mono ?_;rintro e V0 ⟨rfl,hs5,hk5⟩;have HB5:=hzz (HB3.out.keepL hk5 (by decide) (by decide));have HS5:=hzz hs5
   have HK5:=hzz (HK3.out.trans hk5);have HO5:=hzz (A0u.own HO3.out hk5 (by decide) (by decide));clear hs5 hk5 HC HB3 HS3 HK3 HO3;obtain⟨c0,c1,f0,f1,lt⟩:=HB5.out.box
   go_upto_region 19 with fail
   have HBV:=hzz (show A8w (V0.setCell ⟨gs,1,none⟩ (.int .i64 (i5:Nat))) gs (.int .i64 7) (.int .i64 (i5:Nat)) 174 from HB5.out.set1)
   have HSVV:=hzz (HS5.out.setO HB5.out (by decide) (by decide) hgs0 1 (.int .i64 (i5:Nat)))
   have HKV:=hzz (HK5.out.thenB (show Below w.heap.size V0 (V0.setCell ⟨gs,1,none⟩ (.int .i64 (i5:Nat)))from brz.setCell hwr _));have HOV:=hzz (A9m HO5.out HGN.out 1 (.int .i64 (i5:Nat)))
   clear c0 c1 f0 f1 lt HB5 HS5 HK5 HO5;generalize V0.setCell ⟨gs,1,none⟩ (.int .i64 (i5:Nat))=V at*;have hjn:j<=1024:=by omega
   have HSZ:w.heap.size<=V.heap.size:=HKV.out.size;obtain⟨c0,c1,f0,f1,lt⟩:=HBV.out.box
   go_wp2_with (at_builtin;refine A0q B2a rfl _ _ rfl w.heap.size _ j _ rfl HOV.out _ 1 _ _ rfl (by simp) rfl rfl (by omega) (by unfold maxLen;omega) HSZ ?_;intro v9 w9 hown9 hg9 hb9;have hown8:w9.ownsRow w.heap.size 174 2 v9 (j+1) ((lj++[(⟨7,(i5:Nat)⟩:KS)]).flatMap KS.cells):=(by rw[List.flatMap_append];exact hown9);obtain⟨a9,c9,rfl,-,-⟩:=Ss.ofOwn KS.cells_length (by decide) hown8;have HO9:=hzz hown8;have HS9:=hzz (HSVV.out.app HOV.out hg9 (by decide) (by decide) hw0);have HK9:=hzz (HKV.out.thenB hb9);clear hown9 hown8 hg9 hb9 c0 c1 f0 f1 lt)
   go_roundg (n-(j+1))
   case measure=>omega
   case rel=>exact⟨j+1,_,_,by omega,rfl,rfl,by go_num,hzz (by rw[HSN.out,HRR.out];exact HS9.out),HK9,hzz (by rw[HSN.out,HRR.out];exact HO9.out)⟩
  have HRR:=hzz (show RS=((sj.cls sv false).1,⟨7,((sj.cls sv false).2:Nat)⟩) by
   rw[HRS.out];unfold LW.slot;rw[if_neg h84,if_neg h73,if_neg h74,if_neg h78,if_pos (HOK.out.symm),HSV.out])
  have HC:=hzz (fun(h:sv.length<=65536)=>A3w W B g sj sv false HS1.out h (by omega) (Nat.le_trans HBW.out HK1.out.size))
  have hsvl:sv.length<=65536:=by rw[<-HSV.out];exact Nat.le_trans (C3j t) HT.out
  have hl5:(sj.cls sv false).1.l.length<=sj.l.length+4:=A7h _ _ _;generalize sj.cls sv false=C5 at*;obtain⟨s5,i5⟩:=C5;dsimp only at hl5 HC HRR
  have e84:(t==[84])=false:=by simpa using h84
  have e73:(t==[73])=false:=by simpa using h73
  have e74:(t==[74])=false:=by simpa using h74
  have e78:(t==[78])=false:=by simpa using h78
  clear h84 h73 h74 h78
  go_wp2_with fail
  refine(HCO.out W).mono ?_;rintro e W0 ⟨rfl,hwq⟩;replace hwq:=hwq.symm;subst hwq
  go_wp2_with fail
  refine(HC.out hsvl).mono ?_;rintro e V0 ⟨rfl,hs5,hk5⟩;have HB5:=hzz (HSB.out.keepL hk5 (by decide) (by decide));have HS5:=hzz hs5;have HK5:=hzz (HK1.out.trans hk5)
  have HO5:=hzz (A0u.own HO1.out hk5 (by decide) (by decide));clear hs5 hk5 HSB HS1 HK1 HO1 HC;obtain⟨c0,c1,f0,f1,lt⟩:=HB5.out.box
  go_upto_region 19 with fail
  have HBV:=hzz (show A8w (V0.setCell ⟨gs,1,none⟩ (.int .i64 (i5:Nat))) gs (.int .i64 7) (.int .i64 (i5:Nat)) 174 from HB5.out.set1)
  have HSVV:=hzz (HS5.out.setO HB5.out (by decide) (by decide) hgs0 1 (.int .i64 (i5:Nat)))
  have HKV:=hzz (HK5.out.thenB (show Below w.heap.size V0 (V0.setCell ⟨gs,1,none⟩ (.int .i64 (i5:Nat)))from brz.setCell hwr _));have HOV:=hzz (A9m HO5.out HGN.out 1 (.int .i64 (i5:Nat)))
  clear c0 c1 f0 f1 lt HB5 HS5 HK5 HO5;generalize V0.setCell ⟨gs,1,none⟩ (.int .i64 (i5:Nat))=V at*;have hjn:j<=1024:=by omega
  have HSZ:w.heap.size<=V.heap.size:=HKV.out.size;obtain⟨c0,c1,f0,f1,lt⟩:=HBV.out.box
  go_wp2_with (at_builtin;refine A0q B2a rfl _ _ rfl w.heap.size _ j _ rfl HOV.out _ 1 _ _ rfl (by simp) rfl rfl (by omega) (by unfold maxLen;omega) HSZ ?_;intro v9 w9 hown9 hg9 hb9;have hown8:w9.ownsRow w.heap.size 174 2 v9 (j+1) ((lj++[(⟨7,(i5:Nat)⟩:KS)]).flatMap KS.cells):=(by rw[List.flatMap_append];exact hown9);obtain⟨a9,c9,rfl,-,-⟩:=Ss.ofOwn KS.cells_length (by decide) hown8;have HO9:=hzz hown8;have HS9:=hzz (HSVV.out.app HOV.out hg9 (by decide) (by decide) hw0);have HK9:=hzz (HKV.out.thenB hb9);clear hown9 hown8 hg9 hb9 c0 c1 f0 f1 lt)
  go_roundg (n-(j+1))
  case measure=>omega
  exact⟨j+1,_,_,by omega,rfl,rfl,by go_num,hzz (by rw[HSN.out,HRR.out];exact HS9.out),HK9,hzz (by rw[HSN.out,HRR.out];exact HO9.out)⟩
 obtain rfl:j=n:=by omega
 have hfull:l.take j=l:=List.take_of_length_le (by rw[HLn.out];exact Nat.le_refl _);rw[hfull]at HS HO;clear hlt
 go_wp2_with fail
 go_ret;exact⟨_,_,rfl,HO.out,HS.out,HK.out⟩
abbrev B2y:=118
def rz:RW:=⟨0,0,0,0⟩
theorem B3p(s:LW)(p:Nat)(l k:List IN):s.raws p (l++k)=(((s.raws p l).1.raws (p+(l.map A7w).sum) k).1,(s.raws p l).2++((s.raws p l).1.raws (p+(l.map A7w).sum) k).2):=by
 induction l generalizing s p with
 |nil=>simp[LW.raws]
 |cons x l ih=>
  rw[List.cons_append,LW.raws,LW.raws,ih];simp only[List.map_cons,List.sum_cons,List.cons_append,Nat.add_assoc]
theorem A9u(s:LW)(p:Nat)(l:List IN):(s.raws p l).2.length=l.length:=by
 induction l generalizing s p with
 |nil=>rfl
 |cons x l ih=>rw[LW.raws,List.length_cons,List.length_cons,ih]
theorem B7c(s:LW)(p:Nat)(l:List IN):(s.raws p l).1.l.length<=s.l.length+12*l.length:=by
 induction l generalizing s p with
 |nil=>exact Nat.le_refl _
 |cons x l ih=>
  rw[LW.raws];have h1:=D7h s p x;have h2:=ih (s.raw p x).1 (p+A7w x);simp only[List.length_cons];omega
theorem C8k{l:List IN}{j:Nat}{x:IN}(h:l[j]? =some x):A3q l (j+1)=A3q l j+A7w x:=by
 unfold A3q;have hj:=(gsz h).1;rw[List.take_succ_eq_append_getElem hj,(gsz h).2,List.map_append,List.sum_append];simp
theorem C7v(x:IN):A7w x<=3:=by
 unfold A7w;have:=A4z x.op;generalize A0g x.op=f at*
 match f,this with
 |0,_|1,_|2,_|3,_|4,_|5,_|6,_|7,_|8,_|9,_=>decide
 |n+10,h=>omega
theorem C1n(l:List IN)(n:Nat):A3q l n<=3*n:=by
 unfold A3q
 induction n generalizing l with
 |zero=>simp
 |succ n ih=>
  cases l with
  |nil=>simp
  |cons x l=>
  rw[List.take_succ_cons,List.map_cons,List.sum_cons];have h1:=ih l;have h2:=C7v x;omega
theorem B9a(s:LW)(l:List IN)(j:Nat)(x:IN)(h:l[j]? =some x):
  s.raws 0 (l.take (j+1))=(((s.raws 0 (l.take j)).1.raw (A3q l j) x).1,(s.raws 0 (l.take j)).2++[((s.raws 0 (l.take j)).1.raw (A3q l j) x).2]):=by
 have hj:=(gsz h).1;rw[List.take_succ_eq_append_getElem hj,(gsz h).2,B3p];simp only[LW.raws,Nat.zero_add];rfl
theorem C2t(s:LW)(l:List IN)(j:Nat)(x:IN)(h:l[j]? =some x):(s.raws 0 l).2[j]? =some ((s.raws 0 (l.take j)).1.raw (A3q l j) x).2:=by
 have hj:=(gsz h).1;have e:l=l.take (j+1)++l.drop (j+1):=(List.take_append_drop _ _).symm;have h1:=B3p s 0 (l.take (j+1)) (l.drop (j+1));rw[<-e,B9a s l j x h]at h1;rw[h1]
 have hc:=A9u s 0 (l.take j);rw[List.length_take,Nat.min_eq_left (by omega)]at hc;simp only;rw[List.getElem?_append_left (by simp;omega),List.getElem?_append_right (by omega),hc];simp
def A3g(R:List RW)(j:Nat):List RW:=(List.range R.length).map fun k=>if k<j then R.getD k rz else rz
theorem B5p(R:List RW)(j:Nat):(A3g R j).length=R.length:=by simp[A3g]
theorem C2b(R:List RW):A3g R 0=List.replicate R.length rz:=by
 unfold A3g;apply List.ext_getElem (by simp);intro i h1 h2;simp
theorem C5w(R:List RW):A3g R R.length=R:=by
 apply List.ext_getElem (by simp[A3g]);intro i h1 h2;simp only[A3g,List.getElem_map,List.getElem_range];rw[if_pos h2];simp[List.getD,h2]
theorem C6p(R:List RW)(j:Nat)(r:RW)(h:R[j]? =some r):(A3g R j).set j r=A3g R (j+1):=by
 have hj:=(gsz h).1;apply List.ext_getElem (by simp[A3g]);intro i h1 h2;rw[List.getElem_set];simp only[A3g,List.getElem_map,List.getElem_range];by_cases e:j=i
 ·subst e;rw[if_pos rfl,if_pos (by omega)];simp[List.getD,h]
 rw[if_neg e];by_cases h3:i<j
 ·rw[if_pos h3,if_pos (by omega)]
 rw[if_neg h3,if_neg (by omega)]
def iz:IN:=⟨0,0,0,[],[],[],[]⟩
def A5h(l:List IN)(R:List RW)(j:Nat):List RW:=(List.range R.length).map fun k=>if k<j then A2z l (l.getD k iz) (R.getD k rz)else R.getD k rz
theorem C5c(l:List IN)(R:List RW)(j:Nat):(A5h l R j).length=R.length:=by simp[A5h]
theorem C2u(l:List IN)(R:List RW):A5h l R 0=R:=by
 unfold A5h;apply List.ext_getElem (by simp);intro i h1 h2;simp[List.getD,h2]
theorem C6i(l:List IN)(R:List RW)(h:R.length=l.length):A5h l R R.length=A8k l R:=by
 unfold A5h A8k;apply List.ext_getElem (by simp[h]);intro i h1 h2;have hi:i<R.length:=by simpa using h1
 have hi2:i<l.length:=by omega
 simp[List.getD,hi,hi2]
theorem B8n(l:List IN)(R:List RW)(j:Nat)(r:RW)(h:R[j]? =some r):(A5h l R j)[j]? =some r:=by
 unfold A5h;have hj:=(gsz h).1;rw[List.getElem?_map,List.getElem?_range hj];simp[List.getD,h]
theorem B6d(l:List IN)(R:List RW)(j:Nat)(x:IN)(r:RW)(hx:l[j]? =some x)(h:R[j]? =some r):(A5h l R j).set j (A2z l x r)=A5h l R (j+1):=by
 have hj:=(gsz h).1;apply List.ext_getElem (by simp[A5h]);intro i h1 h2;rw[List.getElem_set];simp only[A5h,List.getElem_map,List.getElem_range];by_cases e:j=i
 ·subst e;rw[if_pos rfl,if_pos (by omega)];simp[List.getD,h,hx]
 rw[if_neg e];by_cases h3:i<j
 ·rw[if_pos h3,if_pos (by omega)]
 rw[if_neg h3,if_neg (by omega)]
theorem C2z(l:List IN)(R:List RW)(j:Nat)(x:IN)(r:RW)(hx:l[j]? =some x)(h:R[j]? =some r)(hb:A2z l x r=r):A5h l R (j+1)=A5h l R j:=by
 rw[<-B6d l R j x r hx h,hb];have h1:=B8n l R j r h;have hj:=(gsz h1).1
 conv=>lhs;rw[<-(gsz h1).2]
 exact List.set_getElem_self hj
theorem C8y(s:LW)(l k:List IN)(x:IN):s.goes l (k++[x])=if A0g x.op=7 then(s.goes l k).need (inB l x.n) 2 else s.goes l k:=by
 induction k generalizing s with
 |nil=>rfl
 |cons y k ih=>rw[List.cons_append,LW.goes,LW.goes,ih]
theorem E0f(s:LW)(l k:List IN):(s.goes l k).l=s.l:=by
 induction k generalizing s with
 |nil=>rfl
 |cons y k ih=>
  rw[LW.goes,ih];split<;>rfl
theorem C1r(s:LW)(c:KV)(n:Nat)(h:(s.put c).1.l.length<=n):(s.put c).2<=n:=Nat.le_of_lt (Nat.lt_of_lt_of_le (A5x s c) h)
theorem C7k(s:LW)(x:IN):(s.con x).2<=s.l.length+4:=by
 unfold LW.con;split
 ·have h:=B2p (s.need (A4d x.n) 8) ⟨3,0,0,x.n,[]⟩;have h0:(s.need (A4d x.n) 8).l=s.l:=rfl;rw[h0]at h;omega
 split
 ·have h1:=A1x s x.tx;have h2:=B2p (s.text x.tx).1 ⟨8,((s.text x.tx).2:Nat),0,0,[]⟩;omega
 split
 ·have h:=B2p s ⟨5,0,0,x.n,[]⟩;omega
 show 0<=_;omega
theorem C8i(s:LW)(x:IN):(s.wide x).2<=s.l.length+12:=by
 have h:=C3i s x;unfold LW.wide at h⊢;split
 ·next h1=>rw[if_pos h1]at h;exact C1r _ _ _ h
 next h1=>
 rw[if_neg h1]at h;split
 ·next h2=>rw[if_pos h2]at h;exact C1r _ _ _ h
 next h2=>rw[if_neg h2]at h;exact C1r _ _ _ h
theorem E0e(s:LW)(p:Nat)(x:IN)(hs:s.l.length<=1000000000000)(hx:x.op<256)(hp:p<=1048576):A4b (s.raw p x).2.pos/\A4b (s.raw p x).2.a/\(s.raw p x).2.op<256:=by
 have hc:=C7k (s.need (decide (x.cl=[]/\x.nm=[]/\x.m=0)) 8) x;have h0:(s.need (decide (x.cl=[]/\x.nm=[]/\x.m=0)) 8).l=s.l:=rfl;rw[h0]at hc;have hw:=C8i s x
 have hz:∀q:Nat,q<=1000000000012->A4b (q:Int):=fun q hq=>A1j (by omega)
 have hr:A4b (A2y x.n):=A1j (by unfold A2y;omega);unfold LW.raw;split
 ·exact⟨hz p (by omega),hz _ (by omega),hx⟩
 split
 ·exact⟨hz p (by omega),hz _ (by omega),hx⟩
 split
 ·exact⟨hz p (by omega),hz 0 (by omega),hx⟩
 exact⟨hz p (by omega),hr,hx⟩
theorem D6j(s:LW)(l:List IN)(hs:s.l.length<=999990000000)(hn:l.length<=4096)(hf:∀x∈l,x.op<256):∀r∈A8k l (s.raws 0 l).2,A4b r.pos/\A4b r.a/\r.op<256:=by
 intro r hr;unfold A8k at hr;obtain⟨⟨x,r0⟩,hm,rfl⟩:=List.mem_map.1 hr;obtain⟨j,hj,he⟩:=List.getElem_of_mem hm;have hjl:j<l.length:=by simp at hj;omega
 rw[List.getElem_zip]at he;simp only[Prod.mk.injEq]at he;have hx:l[j]? =some x:=by rw[List.getElem?_eq_getElem hjl,he.1]
 have h1:=C2t s l j x hx;have hjr:j<(s.raws 0 l).2.length:=by rw[A9u];exact hjl
 rw[List.getElem?_eq_getElem hjr,he.2]at h1;have h2:=B7c s 0 (l.take j);rw[List.length_take]at h2
 have h3:=E0e (s.raws 0 (l.take j)).1 (A3q l j) x (by omega) (hf x (List.mem_of_getElem? hx)) (by have:=C1n l j;omega);rw[<-Option.some.inj h1]at h3;simp only;unfold A2z;split
 ·exact⟨h3.1,A1j (by have:=C1n l x.n.toNat;next hb=>have:=hb.2;unfold inB at this;rw[decide_eq_true_iff]at this;dsimp only;omega),h3.2.2⟩
 exact h3
def A1g(l:List IN)(j:Nat):List Int:=(List.range (l.length+1)).map fun k=>if k<=j then(A3q l k:Int)else 0
theorem B9u(l:List IN)(j:Nat):(A1g l j).length=l.length+1:=by simp[A1g]
theorem B6p(l:List IN):A1g l 0=List.replicate (l.length+1) 0:=by
 apply List.ext_getElem (by simp[A1g]);intro i h1 h2;simp only[A1g,List.getElem_map,List.getElem_range,List.getElem_replicate];split
 ·next h=>
       obtain rfl:i=0:=by omega
       simp[A3q]
 rfl
theorem A8g(l:List IN)(j k:Nat)(h:k<=j)(hj:k<=l.length):(A1g l j)[k]? =some (A3q l k:Int):=by
 unfold A1g;rw[List.getElem?_map,List.getElem?_range (by omega)];simp[h]
theorem B9b(l:List IN)(j:Nat)(h:j<l.length):(A1g l j).set (j+1) (A3q l (j+1):Int)=A1g l (j+1):=by
 apply List.ext_getElem (by simp[A1g]);intro i h1 h2;rw[List.getElem_set];simp only[A1g,List.getElem_map,List.getElem_range];by_cases e:j+1=i
 ·subst e;rw[if_pos rfl,if_pos (by omega)]
 rw[if_neg e];by_cases h3:i<=j
 ·rw[if_pos h3,if_pos (by omega)]
 rw[if_neg h3,if_neg (by omega)]
theorem C5x{α:Type}{z:Nat}{enc:α->List Value}(hz:∀x,(enc x).length=z)(R:List α)(j:Nat)(r:α)(hj:j<R.length):
  (R.flatMap enc).take (j*z)++enc r++(R.flatMap enc).drop (j*z+z)=(R.set j r).flatMap enc:=by
 have e:R=R.take j++R[j]::R.drop (j+1):=by simp
 have hA:((R.take j).flatMap enc).length=j*z:=by rw[A4y hz,List.length_take,Nat.min_eq_left (by omega)]
 have hs:R.set j r=R.take j++r::R.drop (j+1):=by rw[List.set_eq_take_append_cons_drop,if_pos hj]
 have hf:R.flatMap enc=(R.take j).flatMap enc++(enc R[j]++(R.drop (j+1)).flatMap enc):=by
  conv=>lhs;rw[e]
  rw[List.flatMap_append,List.flatMap_cons]
 rw[hs,List.flatMap_append,List.flatMap_cons,hf];rw[List.take_left' hA,<-List.append_assoc,List.drop_left' (by rw[List.length_append,hA,hz]),List.append_assoc]
theorem C4v{α:Type}{z:Nat}{enc:α->List Value}(hz:∀x,(enc x).length=z)(R:List α)(j o:Nat)(r:α)(v:Value)(hj:j<R.length)(ho:o<z)(he:(enc R[j]).set o v=enc r):
  (R.flatMap enc).set (j*z+o) v=(R.set j r).flatMap enc:=by
 have e:R=R.take j++R[j]::R.drop (j+1):=by simp
 have hA:((R.take j).flatMap enc).length=j*z:=by rw[A4y hz,List.length_take,Nat.min_eq_left (by omega)]
 have hs:R.set j r=R.take j++r::R.drop (j+1):=by rw[List.set_eq_take_append_cons_drop,if_pos hj]
 have hf:R.flatMap enc=(R.take j).flatMap enc++(enc R[j]++(R.drop (j+1)).flatMap enc):=by
  conv=>lhs;rw[e]
  rw[List.flatMap_append,List.flatMap_cons]
 rw[hs,List.flatMap_append,List.flatMap_cons,hf,List.set_append_right _ _ (by omega),hA,Nat.add_sub_cancel_left,List.set_append_left _ _ (by rw[hz];exact ho),he]
def A5g(w:World)(g:Nat)(R:List RW):Prop:=w.heap[g]? =some (.cells (R.flatMap RW.cells).toArray B2y (0,0))
def A6g(w:World)(g:Nat)(P:List Int):Prop:=w.heap[g]? =some (.cells (P.map (Value.int .i64)).toArray 3 (0,0))
theorem A5g.keepL{B:Nat}{w w':World}{g:Nat}{R:List RW}(h:A5g w g R)(hk:A0u B w w'):A5g w' g R:=hk.row h (by decide) (by decide)
theorem A6g.keepL{B:Nat}{w w':World}{g:Nat}{R:List Int}(h:A6g w g R)(hk:A0u B w w'):A6g w' g R:=hk.row h (by decide) (by decide)
theorem A5g.below{w w':World}{g:Nat}{R:List RW}(h:A5g w g R)(hb:Below w.heap.size w w'):A5g w' g R:=A0e h hb
theorem A6g.below{w w':World}{g:Nat}{R:List Int}(h:A6g w g R)(hb:Below w.heap.size w w'):A6g w' g R:=A0e h hb
theorem A6g.cell{w:World}{g:Nat}{P:List Int}(h:A6g w g P){k:Nat}{v:Int}(hk:P[k]? =some v):w.cell? ⟨g,k,none⟩=some (.int .i64 v):=A0a h k (by simp[hk])
theorem A6g.set{w:World}{g:Nat}{P:List Int}(h:A6g w g P)(k:Nat)(v:Int):A6g (w.setCell ⟨g,k,none⟩ (.int .i64 v)) g (P.set k v):=by
 have h1:=A1k h k (.int .i64 v);unfold A6g;rw[h1,List.map_set];simp
theorem A5g.ss{w:World}{g:Nat}{R:List RW}(h:A5g w g R):Rs w (some ⟨g,0,none⟩) R.length R:=by
 refine⟨rfl,fun hn=>⟨g,0,rfl,A0r h,fun i hi j hj=> ?_⟩⟩;rw[Nat.zero_add];have hc:=B2b RW.cells_length R i hi j hj;have hlt:j<(RW.cells R[i]).length:=by rw[RW.cells_length];exact hj
 rw[List.getElem?_eq_getElem hlt]at hc⊢;exact A0a h (i*4+j) (by simpa using hc)
theorem A5g.setA{w:World}{g:Nat}{R:List RW}(h:A5g w g R)(i:Nat)(hi:i<R.length)(v:Int):A5g (w.setCell ⟨g,i*4+2,none⟩ (.int .i64 v)) g (R.set i {R[i]with a:=v}):=by
 have h1:=A1k h (i*4+2) (.int .i64 v);have h2:=C4v RW.cells_length R i 2 {R[i]with a:=v} (.int .i64 v) hi (by omega) rfl;unfold A5g;rw[h1,<-h2];simp
theorem A5g.cellA{w:World}{g:Nat}{R:List RW}(h:A5g w g R)(i:Nat)(hi:i<R.length):w.cell? ⟨g,i*4+2,none⟩=some (.int .i64 R[i].a):=by
 have hc:=B2b RW.cells_length R i hi 2 (by omega);exact A0a h (i*4+2) (by simpa[RW.cells]using hc)
theorem below_setRow{B:Nat}{w:World}{g:Nat}(h:B<=g)(cs:Array Value):Below B w (w.setRow g cs):=
 ⟨rfl,rfl,rfl,by simp[World.setRow],fun k hk=>setRow_other w g k cs (by omega)⟩
theorem A1q{w:World}{g:Nat}{cs cs':Array Value}{t:TypeId}{fr:Nat×Nat}(h:w.heap[g]? =some (.cells cs t fr)):A2p t w (w.setRow g cs'):=by
 refine⟨by simp[World.setRow],fun k cs2 t2 fr2 hk hne=> ?_⟩
 rw[setRow_other w g k cs' (by
  rintro rfl;rw[h]at hk
  cases hk
  exact hne rfl)]
 exact hk
theorem LoS.setR{w:World}{B g:Nat}{s:LW}{h9:Nat}{cs:Array Value}{t:TypeId}{fr:Nat×Nat}(h:LoS w B g s)(hx:w.heap[h9]? =some (.cells cs t fr))(h1:t≠A6e)(h2:t≠B3f)(h0:0<h9)(cs':Array Value):LoS (w.setRow h9 cs') B g s:=by
 obtain⟨a,cap,b,h⟩:=h;have hkt:=A1q (cs':=cs') hx
 have hne:b≠h9:=by
  rintro rfl;obtain⟨es,cl,hm⟩:=h.m.obj;rw[hm]at hx
  cases hx
 have hgr:w.grownBy (w.setRow h9 cs') (some h9):=⟨rfl,rfl,rfl,by simp[World.setRow],fun k _ hk=>setRow_other w h9 k cs' (fun e=>hk (by rw[e]))⟩
 refine⟨a,cap,b,⟨hkt.2 _ _ _ _ h.k (Ne.symm h2),A0k h.o hkt (Ne.symm h1),h.m.kept hgr (by simpa using hne),h.bB,h.gB,h.B0,?_⟩⟩;obtain⟨m,hm⟩:=h.vw;refine⟨m,?_⟩;rw[<-hm];unfold World.cell?
 rw[setRow_other w h9 0 cs' (by omega)]
theorem D7v:(Tryz.prog.info? B2y).map (fun i=>(i.zero,i.size,i.bytes))=some (some (.agg #[.int .i64 0,.int .u8 0,.int .i64 0,.int .i64 0]),4,32):=by kernel_rfl
theorem D7w:(Tryz.prog.info? 3).map (fun i=>(i.zero,i.size,i.bytes))=some (some (.int .i64 0),1,8):=by kernel_rfl
theorem C9y(n:Nat):madeCells (Value.agg #[.int .i64 0,.int .u8 0,.int .i64 0,.int .i64 0]).cells (n*4)=((List.replicate n rz).flatMap RW.cells).toArray:=by
 apply Array.ext
 ·rw[size_madeCells,List.size_toArray,A4y RW.cells_length,List.length_replicate]
 intro i h1 h2;rw[size_madeCells]at h1;have hi:i/4<(List.replicate n rz).length:=by rw[List.length_replicate];omega
 have hc:=B2b RW.cells_length (List.replicate n rz) (i/4) hi (i%4) (by omega);rw[show i/4*4+i%4=i by omega,List.getElem_replicate]at hc
 have h3:((List.replicate n rz).flatMap RW.cells).toArray[i]=((List.replicate n rz).flatMap RW.cells)[i]'(by simpa using h2):=by simp
 rw[h3];have h4:=List.getElem?_eq_getElem (l:=(List.replicate n rz).flatMap RW.cells) (i:=i) (by simpa using h2);rw[hc]at h4
 have h5:(madeCells (Value.agg #[.int .i64 0,.int .u8 0,.int .i64 0,.int .i64 0]).cells (n*4))[i]'(by rw[size_madeCells];exact h1)=(#[Value.int .i64 0,.int .u8 0,.int .i64 0,.int .i64 0])[i%4]! :=by
  simp[madeCells,Value.cells]
 rw[h5];have h6:i%4=0\/i%4=1\/i%4=2\/i%4=3:=by omega
 have h7:(RW.cells rz)[i%4]? =some ((#[Value.int .i64 0,.int .u8 0,.int .i64 0,.int .i64 0])[i%4]!):=by
  rcases h6 with h|h|h|h<;>rw[h]<;>rfl
 rw[h7]at h4;exact Option.some.inj h4
theorem C8c(n:Nat):madeCells (Value.int .i64 0).cells n=((List.replicate n (0:Int)).map (Value.int .i64)).toArray:=by
 apply Array.ext
 ·simp[madeCells]
 intro i h1 h2;simp[madeCells,Value.cells,Nat.mod_one]
theorem D0v(w:World)(n:Nat)(h:n<=1048576):(Instr.makeSlice 112 (.int .i64 n) (.int .i64 n)).run Tryz.prog w= .ok (.slice (some ⟨w.heap.size,0,none⟩) n n) (w.alloc (.cells ((List.replicate n rz).flatMap RW.cells).toArray B2y)):=by
 obtain⟨i,hi,hz0,hz1,hz2⟩:=info_parts D7v
 have hr:=run_makeSlice (P:=Tryz.prog) (w:=w) 112 B2y i _ Tryz.underlying112 hi hz0 .i64 .i64 n n (by omega) (Int.le_refl _) (by rw[hz1];omega) (by rw[hz2];omega) (by omega);rw[hz1]at hr
 simp only[Int.toNat_natCast]at hr;rw[C9y]at hr;exact hr
theorem C1g(w:World)(n:Nat)(h:n<=1048576):(Instr.makeSlice 138 (.int .i64 ((n:Int)+1)) (.int .i64 ((n:Int)+1))).run Tryz.prog w= .ok (.slice (some ⟨w.heap.size,0,none⟩) (n+1) (n+1)) (w.alloc (.cells ((List.replicate (n+1) (0:Int)).map (Value.int .i64)).toArray 3)):=by
 obtain⟨i,hi,hz0,hz1,hz2⟩:=info_parts D7w
 have hr:=run_makeSlice (P:=Tryz.prog) (w:=w) 138 3 i (.int .i64 0) Tryz.underlying138 hi hz0 .i64 .i64 ((n+1:Nat):Int) ((n+1:Nat):Int) (by omega) (Int.le_refl _) (by rw[hz1];omega) (by rw[hz2];omega) (by omega)
 rw[hz1]at hr;simp only[Int.toNat_natCast,Nat.mul_one]at hr;rw[C8c]at hr;rw[show((n:Int)+1)=((n+1:Nat):Int) by omega];exact hr
theorem B1x{P:Program}{ops:Array Oper}{rest:List Oper}{op:Oper}{a:Act}{w:World}{Q:Exit->Act->World->Prop}(hgd:op.guard=none)(ty:TypeId)(x y:Operand)(ho:op.op= .store ty x y)
  (b o:Nat) (cells:Array Value) (hx:a.eval x= .pointer (some ⟨b,o,none⟩)) (hy:a.eval y= .agg cells) (cur:Array Value) (t:TypeId)
  (hg:w.heap[b]? =some (.cells cur t (0,0))) (hle:o+cells.size<=cur.size) (hi:(P.info? ty).map (·.size)=some cells.size) (h1:cells.all (·.oneCell')=true)
  (h:wpList P ops Q rest (a.put op.dst undef) (w.setRow b (cur.toList.take o++cells.toList++cur.toList.drop (o+cells.size)).toArray)):wpList P ops Q (op::rest) a w:=by
 refine wpList_plain hgd fun K hK=> ?_
 have hrun:(storeVar ty ⟨b,o,none⟩ (.agg cells)).run P w= .ok () (w.setRow b (cur.toList.take o++cells.toList++cur.toList.drop (o+cells.size)).toArray):=by
  have:=run_storeCells_at (P:=P) b o t cells.toList 0 cur w hg (by simpa using hle) (fun v hv=>(Array.all_eq_true_iff_forall_mem.1 h1) v (by simpa using hv))
  cases hq:P.info? ty with
  |none=>simp[hq]at hi
  |some i=>
  have hs:cells.size=i.size:=by simp[hq]at hi;omega
  simp only[Nat.add_zero,Array.length_toList]at this;simp[storeVar,sizeOf,typeInfo,hq,Value.cells,hs,Sem.run_bind]at this⊢;exact this
 unfold Oper.wp execOp;simp only[ho,hx,hy,Instr.storeAt,Instr.sureAddr,Sem.run_bind,Sem.run_pure,Result.andThen_ok,hrun];exact hK _ _ h
theorem A5g.setR{w:World}{g:Nat}{R:List RW}(h:A5g w g R)(j:Nat)(hj:j<R.length)(r:RW):
  A5g (w.setRow g (((R.flatMap RW.cells).toArray).toList.take (j*4)++(RW.cells r).toArray.toList++((R.flatMap RW.cells).toArray).toList.drop (j*4+(RW.cells r).toArray.size)).toArray) g (R.set j r):=by
 have h1:=setRow_heap w g _ (((R.flatMap RW.cells).toArray).toList.take (j*4)++(RW.cells r).toArray.toList++((R.flatMap RW.cells).toArray).toList.drop (j*4+(RW.cells r).toArray.size)).toArray _ _ h
 have h2:=C5x RW.cells_length R j r hj;unfold A5g;rw[h1,<-h2];rfl
end
end Go.Proofs.YtclpkipaehpkdaaGreatDoor
