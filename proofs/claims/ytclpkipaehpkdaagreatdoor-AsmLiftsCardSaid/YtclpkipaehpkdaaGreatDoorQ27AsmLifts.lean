/- asm: own texts, merged (wip/merge3.py). No condition. -/
import Derived.Test.YtclpkipaehpkdaaGreatDoorQ26AsmLifts
set_option linter.unusedVariables false
set_option linter.unusedSimpArgs false
set_option maxRecDepth 100000
set_option maxHeartbeats 64000000
namespace Go.Proofs.YtclpkipaehpkdaaGreatDoor
section
open Go.ChangeShapes Go.WideShapes Go.ChangeAt Go.RowKit Go.Maps
theorem C7q(w:World)(B g:Nat)(s:LW)(x:IN)(h:LoS w B g s)(hf:A9c x)(hn:s.l.length≤1000000000040)(hB:B≤w.heap.size):
  Calls Tryz.prog 119 #[.pointer (some ⟨g,0,none⟩),.agg x.cells.toArray] w (B2r (.int .i64 ((s.wide x).2:Nat)) B g (s.wide x).1 w):=by
 replace hn:s.l.length≤1000000000050:=by omega
 have HF:=Lib.hid hf;have hb1:Below w.heap.size w (w.alloc (.cells x.cells.toArray A1f)):=A0e _ _;have HS1:=Lib.hid (h.below hb1)
 have HK0:=Lib.hid (A0x.of hb1:A0x B w (w.alloc (.cells x.cells.toArray A1f)));have HXB:=Lib.hid (show A3w w.heap.size x (w.alloc (.cells x.cells.toArray A1f))from heap_alloc_last w _)
 obtain⟨R,hR⟩:∃R,R=s.wide x:=⟨_,rfl⟩;rw[←hR];have HR:=Lib.hid hR;have HEQ:=fun W (y:IN)=>B2n W 9998 x y
 clear hR h hf hb1;obtain⟨op,n,m,cl,nm,ds,tx⟩:=x;dsimp only[IN.cells]at HS1 HK0 HXB HF HR HEQ⊢;by_cases hop:op=178
 ·have e178:((op:Int)==178)=true:=by rw[hop];rfl
  have HRR:=Lib.hid (show R=(s.need (A5t ⟨op,n,m,cl,nm,ds,tx⟩) 8).member ⟨op,n,m,cl,nm,ds,tx⟩ 9 typeB by
   rw[HR.out];unfold LW.wide;rw[if_pos (show A7f op=true by rw[hop];decide)])
  clear HR hop
  have HMB:=Lib.hid (fun w3 hs hB3=>A5n w3 B g (s.need (A5t ⟨op,n,m,cl,nm,ds,tx⟩) 8) ⟨op,n,m,cl,nm,ds,tx⟩ 9 23 typeB (fun args W=>rfl) (fun W s h1 h2=>A3q W s h1 h2) hs HF.out hn hB3 (by decide))
  dsimp only[IN.cells]at HMB;obtain⟨b,hb⟩:∃b,b=A5t ⟨op,n,m,cl,nm,ds,tx⟩:=⟨_,rfl⟩;rw[←hb]at HRR HMB;unfold A5t at hb;dsimp only at hb
  generalize(s.need b 8).member ⟨op,n,m,cl,nm,ds,tx⟩ 9 typeB=Q at*;have HNN:=Lib.hid (fun W (h:LoS W B g s)=>A0y W B g s b 8 h);by_cases hn0:n=0
  ·have t0:(n==0)=true:=by rw[hn0];rfl
   by_cases hm0:m=0
   ·have t1:(m==0)=true:=by rw[hm0];rfl
    obtain⟨bt,hbt⟩:∃bt,bt=decide (tx=[]):=⟨_,rfl⟩;have t2:(tx==[])=bt:=by rw[hbt,Bool.eq_iff_iff,beq_iff_eq,decide_eq_true_iff]
    have t3:tx.isEmpty=bt:=by rw[hbt,Bool.eq_iff_iff,List.isEmpty_iff,decide_eq_true_iff]
    have hbb:b=bt:=by rw[hb,hbt];simp[hn0,hm0]
    subst hbb;clear hb hbt hn0 hm0;go_enter Tryz.func119,Tryz.ntmps119
    go_upto_region 1 with fail
    generalize w.alloc (.cells #[.int .u8 (op:Nat),.int .i64 n,.int .i64 m,.string ⟨cl.toArray⟩,.string ⟨nm.toArray⟩,.string ⟨ds.toArray⟩,.string ⟨tx.toArray⟩] A1f)=W at*
    obtain⟨j0,j1,j2,j3,j4,j5,j6,-,-,-,-,-,-⟩:=HXB.out.box;dsimp only at j0 j1 j2 j3 j4 j5 j6
    go_wp2_with fail
    refine(HNN.out W HS1.out).mono ?_;rintro e w3 ⟨rfl,hs3,hk3⟩;have HK3:=Lib.hid (HK0.out.trans hk3);have HX3:=Lib.hid (HXB.out.keepL hk3);have HC:=Lib.hid (HMB.out w3 hs3 (HK3.out.bnd hB))
    clear hs3 hk3 HMB HNN j0 j1 j2 j3 j4 j5 j6;obtain⟨j0,j1,j2,j3,j4,j5,j6,-,-,-,-,-,-⟩:=HX3.out.box;dsimp only at j0 j1 j2 j3 j4 j5 j6
    go_wp2_with fail
    refine HC.out.mono ?_;rintro e w4 ⟨rfl,hs4,hk4⟩
    go_wp2_with fail
    go_ret;rw[HRR.out];exact⟨rfl,hs4,HK3.out.trans hk4⟩
   ·have t1:(m==0)=false:=by simpa using hm0
    have hbb:b=false:=by rw[hb];exact decide_eq_false (fun h=>hm0 h.2.1)
    subst hbb;clear hb hn0 hm0;go_enter Tryz.func119,Tryz.ntmps119
    go_upto_region 1 with fail
    generalize w.alloc (.cells #[.int .u8 (op:Nat),.int .i64 n,.int .i64 m,.string ⟨cl.toArray⟩,.string ⟨nm.toArray⟩,.string ⟨ds.toArray⟩,.string ⟨tx.toArray⟩] A1f)=W at*
    obtain⟨j0,j1,j2,j3,j4,j5,j6,-,-,-,-,-,-⟩:=HXB.out.box;dsimp only at j0 j1 j2 j3 j4 j5 j6
    go_wp2_with fail
    refine(HNN.out W HS1.out).mono ?_;rintro e w3 ⟨rfl,hs3,hk3⟩;have HK3:=Lib.hid (HK0.out.trans hk3);have HX3:=Lib.hid (HXB.out.keepL hk3);have HC:=Lib.hid (HMB.out w3 hs3 (HK3.out.bnd hB))
    clear hs3 hk3 HMB HNN j0 j1 j2 j3 j4 j5 j6;obtain⟨j0,j1,j2,j3,j4,j5,j6,-,-,-,-,-,-⟩:=HX3.out.box;dsimp only at j0 j1 j2 j3 j4 j5 j6
    go_wp2_with fail
    refine HC.out.mono ?_;rintro e w4 ⟨rfl,hs4,hk4⟩
    go_wp2_with fail
    go_ret;rw[HRR.out];exact⟨rfl,hs4,HK3.out.trans hk4⟩
  ·have t0:(n==0)=false:=by simpa using hn0
   have hbb:b=false:=by rw[hb];exact decide_eq_false (fun h=>hn0 h.1)
   subst hbb;clear hb hn0;go_enter Tryz.func119,Tryz.ntmps119
   go_upto_region 1 with fail
   generalize w.alloc (.cells #[.int .u8 (op:Nat),.int .i64 n,.int .i64 m,.string ⟨cl.toArray⟩,.string ⟨nm.toArray⟩,.string ⟨ds.toArray⟩,.string ⟨tx.toArray⟩] A1f)=W at*
   obtain⟨j0,j1,j2,j3,j4,j5,j6,-,-,-,-,-,-⟩:=HXB.out.box;dsimp only at j0 j1 j2 j3 j4 j5 j6
   go_wp2_with fail
   refine(HNN.out W HS1.out).mono ?_;rintro e w3 ⟨rfl,hs3,hk3⟩;have HK3:=Lib.hid (HK0.out.trans hk3);have HX3:=Lib.hid (HXB.out.keepL hk3);have HC:=Lib.hid (HMB.out w3 hs3 (HK3.out.bnd hB))
   clear hs3 hk3 HMB HNN j0 j1 j2 j3 j4 j5 j6;obtain⟨j0,j1,j2,j3,j4,j5,j6,-,-,-,-,-,-⟩:=HX3.out.box;dsimp only at j0 j1 j2 j3 j4 j5 j6
   go_wp2_with fail
   refine HC.out.mono ?_;rintro e w4 ⟨rfl,hs4,hk4⟩
   go_wp2_with fail
   go_ret;rw[HRR.out];exact⟨rfl,hs4,HK3.out.trans hk4⟩
 have e178:((op:Int)==178)=false:=by rw[beq_eq_false_iff_ne];omega
 have o178:=hop;clear hop;by_cases hop:op=179
 ·have e179:((op:Int)==179)=true:=by rw[hop];rfl
  have HRR:=Lib.hid (show R=(s.need (A5t ⟨op,n,m,cl,nm,ds,tx⟩) 8).member ⟨op,n,m,cl,nm,ds,tx⟩ 9 typeB by
   rw[HR.out];unfold LW.wide;rw[if_pos (show A7f op=true by rw[hop];decide)])
  clear HR hop
  have HMB:=Lib.hid (fun w3 hs hB3=>A5n w3 B g (s.need (A5t ⟨op,n,m,cl,nm,ds,tx⟩) 8) ⟨op,n,m,cl,nm,ds,tx⟩ 9 23 typeB (fun args W=>rfl) (fun W s h1 h2=>A3q W s h1 h2) hs HF.out hn hB3 (by decide))
  dsimp only[IN.cells]at HMB;obtain⟨b,hb⟩:∃b,b=A5t ⟨op,n,m,cl,nm,ds,tx⟩:=⟨_,rfl⟩;rw[←hb]at HRR HMB;unfold A5t at hb;dsimp only at hb
  generalize(s.need b 8).member ⟨op,n,m,cl,nm,ds,tx⟩ 9 typeB=Q at*;have HNN:=Lib.hid (fun W (h:LoS W B g s)=>A0y W B g s b 8 h);by_cases hn0:n=0
  ·have t0:(n==0)=true:=by rw[hn0];rfl
   by_cases hm0:m=0
   ·have t1:(m==0)=true:=by rw[hm0];rfl
    obtain⟨bt,hbt⟩:∃bt,bt=decide (tx=[]):=⟨_,rfl⟩;have t2:(tx==[])=bt:=by rw[hbt,Bool.eq_iff_iff,beq_iff_eq,decide_eq_true_iff]
    have t3:tx.isEmpty=bt:=by rw[hbt,Bool.eq_iff_iff,List.isEmpty_iff,decide_eq_true_iff]
    have hbb:b=bt:=by rw[hb,hbt];simp[hn0,hm0]
    subst hbb;clear hb hbt hn0 hm0;go_enter Tryz.func119,Tryz.ntmps119
    go_upto_region 1 with fail
    generalize w.alloc (.cells #[.int .u8 (op:Nat),.int .i64 n,.int .i64 m,.string ⟨cl.toArray⟩,.string ⟨nm.toArray⟩,.string ⟨ds.toArray⟩,.string ⟨tx.toArray⟩] A1f)=W at*
    obtain⟨j0,j1,j2,j3,j4,j5,j6,-,-,-,-,-,-⟩:=HXB.out.box;dsimp only at j0 j1 j2 j3 j4 j5 j6
    go_wp2_with fail
    refine(HNN.out W HS1.out).mono ?_;rintro e w3 ⟨rfl,hs3,hk3⟩;have HK3:=Lib.hid (HK0.out.trans hk3);have HX3:=Lib.hid (HXB.out.keepL hk3);have HC:=Lib.hid (HMB.out w3 hs3 (HK3.out.bnd hB))
    clear hs3 hk3 HMB HNN j0 j1 j2 j3 j4 j5 j6;obtain⟨j0,j1,j2,j3,j4,j5,j6,-,-,-,-,-,-⟩:=HX3.out.box;dsimp only at j0 j1 j2 j3 j4 j5 j6
    go_wp2_with fail
    refine HC.out.mono ?_;rintro e w4 ⟨rfl,hs4,hk4⟩
    go_wp2_with fail
    go_ret;rw[HRR.out];exact⟨rfl,hs4,HK3.out.trans hk4⟩
   ·have t1:(m==0)=false:=by simpa using hm0
    have hbb:b=false:=by rw[hb];exact decide_eq_false (fun h=>hm0 h.2.1)
    subst hbb;clear hb hn0 hm0;go_enter Tryz.func119,Tryz.ntmps119
    go_upto_region 1 with fail
    generalize w.alloc (.cells #[.int .u8 (op:Nat),.int .i64 n,.int .i64 m,.string ⟨cl.toArray⟩,.string ⟨nm.toArray⟩,.string ⟨ds.toArray⟩,.string ⟨tx.toArray⟩] A1f)=W at*
    obtain⟨j0,j1,j2,j3,j4,j5,j6,-,-,-,-,-,-⟩:=HXB.out.box;dsimp only at j0 j1 j2 j3 j4 j5 j6
    go_wp2_with fail
    refine(HNN.out W HS1.out).mono ?_;rintro e w3 ⟨rfl,hs3,hk3⟩;have HK3:=Lib.hid (HK0.out.trans hk3);have HX3:=Lib.hid (HXB.out.keepL hk3);have HC:=Lib.hid (HMB.out w3 hs3 (HK3.out.bnd hB))
    clear hs3 hk3 HMB HNN j0 j1 j2 j3 j4 j5 j6;obtain⟨j0,j1,j2,j3,j4,j5,j6,-,-,-,-,-,-⟩:=HX3.out.box;dsimp only at j0 j1 j2 j3 j4 j5 j6
    go_wp2_with fail
    refine HC.out.mono ?_;rintro e w4 ⟨rfl,hs4,hk4⟩
    go_wp2_with fail
    go_ret;rw[HRR.out];exact⟨rfl,hs4,HK3.out.trans hk4⟩
  ·have t0:(n==0)=false:=by simpa using hn0
   have hbb:b=false:=by rw[hb];exact decide_eq_false (fun h=>hn0 h.1)
   subst hbb;clear hb hn0;go_enter Tryz.func119,Tryz.ntmps119
   go_upto_region 1 with fail
   generalize w.alloc (.cells #[.int .u8 (op:Nat),.int .i64 n,.int .i64 m,.string ⟨cl.toArray⟩,.string ⟨nm.toArray⟩,.string ⟨ds.toArray⟩,.string ⟨tx.toArray⟩] A1f)=W at*
   obtain⟨j0,j1,j2,j3,j4,j5,j6,-,-,-,-,-,-⟩:=HXB.out.box;dsimp only at j0 j1 j2 j3 j4 j5 j6
   go_wp2_with fail
   refine(HNN.out W HS1.out).mono ?_;rintro e w3 ⟨rfl,hs3,hk3⟩;have HK3:=Lib.hid (HK0.out.trans hk3);have HX3:=Lib.hid (HXB.out.keepL hk3);have HC:=Lib.hid (HMB.out w3 hs3 (HK3.out.bnd hB))
   clear hs3 hk3 HMB HNN j0 j1 j2 j3 j4 j5 j6;obtain⟨j0,j1,j2,j3,j4,j5,j6,-,-,-,-,-,-⟩:=HX3.out.box;dsimp only at j0 j1 j2 j3 j4 j5 j6
   go_wp2_with fail
   refine HC.out.mono ?_;rintro e w4 ⟨rfl,hs4,hk4⟩
   go_wp2_with fail
   go_ret;rw[HRR.out];exact⟨rfl,hs4,HK3.out.trans hk4⟩
 have e179:((op:Int)==179)=false:=by rw[beq_eq_false_iff_ne];omega
 have o179:=hop;clear hop;by_cases hop:op=180
 ·have e180:((op:Int)==180)=true:=by rw[hop];rfl
  have HRR:=Lib.hid (show R=(s.need (A5t ⟨op,n,m,cl,nm,ds,tx⟩) 8).member ⟨op,n,m,cl,nm,ds,tx⟩ 9 typeB by
   rw[HR.out];unfold LW.wide;rw[if_pos (show A7f op=true by rw[hop];decide)])
  clear HR hop
  have HMB:=Lib.hid (fun w3 hs hB3=>A5n w3 B g (s.need (A5t ⟨op,n,m,cl,nm,ds,tx⟩) 8) ⟨op,n,m,cl,nm,ds,tx⟩ 9 23 typeB (fun args W=>rfl) (fun W s h1 h2=>A3q W s h1 h2) hs HF.out hn hB3 (by decide))
  dsimp only[IN.cells]at HMB;obtain⟨b,hb⟩:∃b,b=A5t ⟨op,n,m,cl,nm,ds,tx⟩:=⟨_,rfl⟩;rw[←hb]at HRR HMB;unfold A5t at hb;dsimp only at hb
  generalize(s.need b 8).member ⟨op,n,m,cl,nm,ds,tx⟩ 9 typeB=Q at*;have HNN:=Lib.hid (fun W (h:LoS W B g s)=>A0y W B g s b 8 h);by_cases hn0:n=0
  ·have t0:(n==0)=true:=by rw[hn0];rfl
   by_cases hm0:m=0
   ·have t1:(m==0)=true:=by rw[hm0];rfl
    obtain⟨bt,hbt⟩:∃bt,bt=decide (tx=[]):=⟨_,rfl⟩;have t2:(tx==[])=bt:=by rw[hbt,Bool.eq_iff_iff,beq_iff_eq,decide_eq_true_iff]
    have t3:tx.isEmpty=bt:=by rw[hbt,Bool.eq_iff_iff,List.isEmpty_iff,decide_eq_true_iff]
    have hbb:b=bt:=by rw[hb,hbt];simp[hn0,hm0]
    subst hbb;clear hb hbt hn0 hm0;go_enter Tryz.func119,Tryz.ntmps119
    go_upto_region 1 with fail
    generalize w.alloc (.cells #[.int .u8 (op:Nat),.int .i64 n,.int .i64 m,.string ⟨cl.toArray⟩,.string ⟨nm.toArray⟩,.string ⟨ds.toArray⟩,.string ⟨tx.toArray⟩] A1f)=W at*
    obtain⟨j0,j1,j2,j3,j4,j5,j6,-,-,-,-,-,-⟩:=HXB.out.box;dsimp only at j0 j1 j2 j3 j4 j5 j6
    go_wp2_with fail
    refine(HNN.out W HS1.out).mono ?_;rintro e w3 ⟨rfl,hs3,hk3⟩;have HK3:=Lib.hid (HK0.out.trans hk3);have HX3:=Lib.hid (HXB.out.keepL hk3);have HC:=Lib.hid (HMB.out w3 hs3 (HK3.out.bnd hB))
    clear hs3 hk3 HMB HNN j0 j1 j2 j3 j4 j5 j6;obtain⟨j0,j1,j2,j3,j4,j5,j6,-,-,-,-,-,-⟩:=HX3.out.box;dsimp only at j0 j1 j2 j3 j4 j5 j6
    go_wp2_with fail
    refine HC.out.mono ?_;rintro e w4 ⟨rfl,hs4,hk4⟩
    go_wp2_with fail
    go_ret;rw[HRR.out];exact⟨rfl,hs4,HK3.out.trans hk4⟩
   ·have t1:(m==0)=false:=by simpa using hm0
    have hbb:b=false:=by rw[hb];exact decide_eq_false (fun h=>hm0 h.2.1)
    subst hbb;clear hb hn0 hm0;go_enter Tryz.func119,Tryz.ntmps119
    go_upto_region 1 with fail
    generalize w.alloc (.cells #[.int .u8 (op:Nat),.int .i64 n,.int .i64 m,.string ⟨cl.toArray⟩,.string ⟨nm.toArray⟩,.string ⟨ds.toArray⟩,.string ⟨tx.toArray⟩] A1f)=W at*
    obtain⟨j0,j1,j2,j3,j4,j5,j6,-,-,-,-,-,-⟩:=HXB.out.box;dsimp only at j0 j1 j2 j3 j4 j5 j6
    go_wp2_with fail
    refine(HNN.out W HS1.out).mono ?_;rintro e w3 ⟨rfl,hs3,hk3⟩;have HK3:=Lib.hid (HK0.out.trans hk3);have HX3:=Lib.hid (HXB.out.keepL hk3);have HC:=Lib.hid (HMB.out w3 hs3 (HK3.out.bnd hB))
    clear hs3 hk3 HMB HNN j0 j1 j2 j3 j4 j5 j6;obtain⟨j0,j1,j2,j3,j4,j5,j6,-,-,-,-,-,-⟩:=HX3.out.box;dsimp only at j0 j1 j2 j3 j4 j5 j6
    go_wp2_with fail
    refine HC.out.mono ?_;rintro e w4 ⟨rfl,hs4,hk4⟩
    go_wp2_with fail
    go_ret;rw[HRR.out];exact⟨rfl,hs4,HK3.out.trans hk4⟩
  ·have t0:(n==0)=false:=by simpa using hn0
   have hbb:b=false:=by rw[hb];exact decide_eq_false (fun h=>hn0 h.1)
   subst hbb;clear hb hn0;go_enter Tryz.func119,Tryz.ntmps119
   go_upto_region 1 with fail
   generalize w.alloc (.cells #[.int .u8 (op:Nat),.int .i64 n,.int .i64 m,.string ⟨cl.toArray⟩,.string ⟨nm.toArray⟩,.string ⟨ds.toArray⟩,.string ⟨tx.toArray⟩] A1f)=W at*
   obtain⟨j0,j1,j2,j3,j4,j5,j6,-,-,-,-,-,-⟩:=HXB.out.box;dsimp only at j0 j1 j2 j3 j4 j5 j6
   go_wp2_with fail
   refine(HNN.out W HS1.out).mono ?_;rintro e w3 ⟨rfl,hs3,hk3⟩;have HK3:=Lib.hid (HK0.out.trans hk3);have HX3:=Lib.hid (HXB.out.keepL hk3);have HC:=Lib.hid (HMB.out w3 hs3 (HK3.out.bnd hB))
   clear hs3 hk3 HMB HNN j0 j1 j2 j3 j4 j5 j6;obtain⟨j0,j1,j2,j3,j4,j5,j6,-,-,-,-,-,-⟩:=HX3.out.box;dsimp only at j0 j1 j2 j3 j4 j5 j6
   go_wp2_with fail
   refine HC.out.mono ?_;rintro e w4 ⟨rfl,hs4,hk4⟩
   go_wp2_with fail
   go_ret;rw[HRR.out];exact⟨rfl,hs4,HK3.out.trans hk4⟩
 have e180:((op:Int)==180)=false:=by rw[beq_eq_false_iff_ne];omega
 have o180:=hop;clear hop;by_cases hop:op=181
 ·have e181:((op:Int)==181)=true:=by rw[hop];rfl
  have HRR:=Lib.hid (show R=(s.need (A5t ⟨op,n,m,cl,nm,ds,tx⟩) 8).member ⟨op,n,m,cl,nm,ds,tx⟩ 9 typeB by
   rw[HR.out];unfold LW.wide;rw[if_pos (show A7f op=true by rw[hop];decide)])
  clear HR hop
  have HMB:=Lib.hid (fun w3 hs hB3=>A5n w3 B g (s.need (A5t ⟨op,n,m,cl,nm,ds,tx⟩) 8) ⟨op,n,m,cl,nm,ds,tx⟩ 9 23 typeB (fun args W=>rfl) (fun W s h1 h2=>A3q W s h1 h2) hs HF.out hn hB3 (by decide))
  dsimp only[IN.cells]at HMB;obtain⟨b,hb⟩:∃b,b=A5t ⟨op,n,m,cl,nm,ds,tx⟩:=⟨_,rfl⟩;rw[←hb]at HRR HMB;unfold A5t at hb;dsimp only at hb
  generalize(s.need b 8).member ⟨op,n,m,cl,nm,ds,tx⟩ 9 typeB=Q at*;have HNN:=Lib.hid (fun W (h:LoS W B g s)=>A0y W B g s b 8 h);by_cases hn0:n=0
  ·have t0:(n==0)=true:=by rw[hn0];rfl
   by_cases hm0:m=0
   ·have t1:(m==0)=true:=by rw[hm0];rfl
    obtain⟨bt,hbt⟩:∃bt,bt=decide (tx=[]):=⟨_,rfl⟩;have t2:(tx==[])=bt:=by rw[hbt,Bool.eq_iff_iff,beq_iff_eq,decide_eq_true_iff]
    have t3:tx.isEmpty=bt:=by rw[hbt,Bool.eq_iff_iff,List.isEmpty_iff,decide_eq_true_iff]
    have hbb:b=bt:=by rw[hb,hbt];simp[hn0,hm0]
    subst hbb;clear hb hbt hn0 hm0;go_enter Tryz.func119,Tryz.ntmps119
    go_upto_region 1 with fail
    generalize w.alloc (.cells #[.int .u8 (op:Nat),.int .i64 n,.int .i64 m,.string ⟨cl.toArray⟩,.string ⟨nm.toArray⟩,.string ⟨ds.toArray⟩,.string ⟨tx.toArray⟩] A1f)=W at*
    obtain⟨j0,j1,j2,j3,j4,j5,j6,-,-,-,-,-,-⟩:=HXB.out.box;dsimp only at j0 j1 j2 j3 j4 j5 j6
    go_wp2_with fail
    refine(HNN.out W HS1.out).mono ?_;rintro e w3 ⟨rfl,hs3,hk3⟩;have HK3:=Lib.hid (HK0.out.trans hk3);have HX3:=Lib.hid (HXB.out.keepL hk3);have HC:=Lib.hid (HMB.out w3 hs3 (HK3.out.bnd hB))
    clear hs3 hk3 HMB HNN j0 j1 j2 j3 j4 j5 j6;obtain⟨j0,j1,j2,j3,j4,j5,j6,-,-,-,-,-,-⟩:=HX3.out.box;dsimp only at j0 j1 j2 j3 j4 j5 j6
    go_wp2_with fail
    refine HC.out.mono ?_;rintro e w4 ⟨rfl,hs4,hk4⟩
    go_wp2_with fail
    go_ret;rw[HRR.out];exact⟨rfl,hs4,HK3.out.trans hk4⟩
   ·have t1:(m==0)=false:=by simpa using hm0
    have hbb:b=false:=by rw[hb];exact decide_eq_false (fun h=>hm0 h.2.1)
    subst hbb;clear hb hn0 hm0;go_enter Tryz.func119,Tryz.ntmps119
    go_upto_region 1 with fail
    generalize w.alloc (.cells #[.int .u8 (op:Nat),.int .i64 n,.int .i64 m,.string ⟨cl.toArray⟩,.string ⟨nm.toArray⟩,.string ⟨ds.toArray⟩,.string ⟨tx.toArray⟩] A1f)=W at*
    obtain⟨j0,j1,j2,j3,j4,j5,j6,-,-,-,-,-,-⟩:=HXB.out.box;dsimp only at j0 j1 j2 j3 j4 j5 j6
    go_wp2_with fail
    refine(HNN.out W HS1.out).mono ?_;rintro e w3 ⟨rfl,hs3,hk3⟩;have HK3:=Lib.hid (HK0.out.trans hk3);have HX3:=Lib.hid (HXB.out.keepL hk3);have HC:=Lib.hid (HMB.out w3 hs3 (HK3.out.bnd hB))
    clear hs3 hk3 HMB HNN j0 j1 j2 j3 j4 j5 j6;obtain⟨j0,j1,j2,j3,j4,j5,j6,-,-,-,-,-,-⟩:=HX3.out.box;dsimp only at j0 j1 j2 j3 j4 j5 j6
    go_wp2_with fail
    refine HC.out.mono ?_;rintro e w4 ⟨rfl,hs4,hk4⟩
    go_wp2_with fail
    go_ret;rw[HRR.out];exact⟨rfl,hs4,HK3.out.trans hk4⟩
  ·have t0:(n==0)=false:=by simpa using hn0
   have hbb:b=false:=by rw[hb];exact decide_eq_false (fun h=>hn0 h.1)
   subst hbb;clear hb hn0;go_enter Tryz.func119,Tryz.ntmps119
   go_upto_region 1 with fail
   generalize w.alloc (.cells #[.int .u8 (op:Nat),.int .i64 n,.int .i64 m,.string ⟨cl.toArray⟩,.string ⟨nm.toArray⟩,.string ⟨ds.toArray⟩,.string ⟨tx.toArray⟩] A1f)=W at*
   obtain⟨j0,j1,j2,j3,j4,j5,j6,-,-,-,-,-,-⟩:=HXB.out.box;dsimp only at j0 j1 j2 j3 j4 j5 j6
   go_wp2_with fail
   refine(HNN.out W HS1.out).mono ?_;rintro e w3 ⟨rfl,hs3,hk3⟩;have HK3:=Lib.hid (HK0.out.trans hk3);have HX3:=Lib.hid (HXB.out.keepL hk3);have HC:=Lib.hid (HMB.out w3 hs3 (HK3.out.bnd hB))
   clear hs3 hk3 HMB HNN j0 j1 j2 j3 j4 j5 j6;obtain⟨j0,j1,j2,j3,j4,j5,j6,-,-,-,-,-,-⟩:=HX3.out.box;dsimp only at j0 j1 j2 j3 j4 j5 j6
   go_wp2_with fail
   refine HC.out.mono ?_;rintro e w4 ⟨rfl,hs4,hk4⟩
   go_wp2_with fail
   go_ret;rw[HRR.out];exact⟨rfl,hs4,HK3.out.trans hk4⟩
 have e181:((op:Int)==181)=false:=by rw[beq_eq_false_iff_ne];omega
 have o181:=hop;clear hop;by_cases hop:op=182
 ·have e182:((op:Int)==182)=true:=by rw[hop];rfl
  have HRR:=Lib.hid (show R=(s.need (A5t ⟨op,n,m,cl,nm,ds,tx⟩) 8).member ⟨op,n,m,cl,nm,ds,tx⟩ 10 A3x by
   rw[HR.out];unfold LW.wide;rw[if_neg (show ¬A7f op=true by rw[hop];decide),if_pos (show B0k op=true by rw[hop];decide)])
  clear HR hop
  have HMB:=Lib.hid (fun w3 hs hB3=>A5n w3 B g (s.need (A5t ⟨op,n,m,cl,nm,ds,tx⟩) 8) ⟨op,n,m,cl,nm,ds,tx⟩ 10 52 A3x (fun args W=>rfl) (fun W s h1 h2=>A5k W s h1 h2) hs HF.out hn hB3 (by decide))
  dsimp only[IN.cells]at HMB;obtain⟨b,hb⟩:∃b,b=A5t ⟨op,n,m,cl,nm,ds,tx⟩:=⟨_,rfl⟩;rw[←hb]at HRR HMB;unfold A5t at hb;dsimp only at hb
  generalize(s.need b 8).member ⟨op,n,m,cl,nm,ds,tx⟩ 10 A3x=Q at*;have HNN:=Lib.hid (fun W (h:LoS W B g s)=>A0y W B g s b 8 h);by_cases hn0:n=0
  ·have t0:(n==0)=true:=by rw[hn0];rfl
   by_cases hm0:m=0
   ·have t1:(m==0)=true:=by rw[hm0];rfl
    obtain⟨bt,hbt⟩:∃bt,bt=decide (tx=[]):=⟨_,rfl⟩;have t2:(tx==[])=bt:=by rw[hbt,Bool.eq_iff_iff,beq_iff_eq,decide_eq_true_iff]
    have t3:tx.isEmpty=bt:=by rw[hbt,Bool.eq_iff_iff,List.isEmpty_iff,decide_eq_true_iff]
    have hbb:b=bt:=by rw[hb,hbt];simp[hn0,hm0]
    subst hbb;clear hb hbt hn0 hm0;go_enter Tryz.func119,Tryz.ntmps119
    go_upto_region 1 with fail
    generalize w.alloc (.cells #[.int .u8 (op:Nat),.int .i64 n,.int .i64 m,.string ⟨cl.toArray⟩,.string ⟨nm.toArray⟩,.string ⟨ds.toArray⟩,.string ⟨tx.toArray⟩] A1f)=W at*
    obtain⟨j0,j1,j2,j3,j4,j5,j6,-,-,-,-,-,-⟩:=HXB.out.box;dsimp only at j0 j1 j2 j3 j4 j5 j6
    go_wp2_with fail
    refine(HNN.out W HS1.out).mono ?_;rintro e w3 ⟨rfl,hs3,hk3⟩;have HK3:=Lib.hid (HK0.out.trans hk3);have HX3:=Lib.hid (HXB.out.keepL hk3);have HC:=Lib.hid (HMB.out w3 hs3 (HK3.out.bnd hB))
    clear hs3 hk3 HMB HNN j0 j1 j2 j3 j4 j5 j6;obtain⟨j0,j1,j2,j3,j4,j5,j6,-,-,-,-,-,-⟩:=HX3.out.box;dsimp only at j0 j1 j2 j3 j4 j5 j6
    go_wp2_with fail
    refine HC.out.mono ?_;rintro e w4 ⟨rfl,hs4,hk4⟩
    go_wp2_with fail
    go_ret;rw[HRR.out];exact⟨rfl,hs4,HK3.out.trans hk4⟩
   ·have t1:(m==0)=false:=by simpa using hm0
    have hbb:b=false:=by rw[hb];exact decide_eq_false (fun h=>hm0 h.2.1)
    subst hbb;clear hb hn0 hm0;go_enter Tryz.func119,Tryz.ntmps119
    go_upto_region 1 with fail
    generalize w.alloc (.cells #[.int .u8 (op:Nat),.int .i64 n,.int .i64 m,.string ⟨cl.toArray⟩,.string ⟨nm.toArray⟩,.string ⟨ds.toArray⟩,.string ⟨tx.toArray⟩] A1f)=W at*
    obtain⟨j0,j1,j2,j3,j4,j5,j6,-,-,-,-,-,-⟩:=HXB.out.box;dsimp only at j0 j1 j2 j3 j4 j5 j6
    go_wp2_with fail
    refine(HNN.out W HS1.out).mono ?_;rintro e w3 ⟨rfl,hs3,hk3⟩;have HK3:=Lib.hid (HK0.out.trans hk3);have HX3:=Lib.hid (HXB.out.keepL hk3);have HC:=Lib.hid (HMB.out w3 hs3 (HK3.out.bnd hB))
    clear hs3 hk3 HMB HNN j0 j1 j2 j3 j4 j5 j6;obtain⟨j0,j1,j2,j3,j4,j5,j6,-,-,-,-,-,-⟩:=HX3.out.box;dsimp only at j0 j1 j2 j3 j4 j5 j6
    go_wp2_with fail
    refine HC.out.mono ?_;rintro e w4 ⟨rfl,hs4,hk4⟩
    go_wp2_with fail
    go_ret;rw[HRR.out];exact⟨rfl,hs4,HK3.out.trans hk4⟩
  ·have t0:(n==0)=false:=by simpa using hn0
   have hbb:b=false:=by rw[hb];exact decide_eq_false (fun h=>hn0 h.1)
   subst hbb;clear hb hn0;go_enter Tryz.func119,Tryz.ntmps119
   go_upto_region 1 with fail
   generalize w.alloc (.cells #[.int .u8 (op:Nat),.int .i64 n,.int .i64 m,.string ⟨cl.toArray⟩,.string ⟨nm.toArray⟩,.string ⟨ds.toArray⟩,.string ⟨tx.toArray⟩] A1f)=W at*
   obtain⟨j0,j1,j2,j3,j4,j5,j6,-,-,-,-,-,-⟩:=HXB.out.box;dsimp only at j0 j1 j2 j3 j4 j5 j6
   go_wp2_with fail
   refine(HNN.out W HS1.out).mono ?_;rintro e w3 ⟨rfl,hs3,hk3⟩;have HK3:=Lib.hid (HK0.out.trans hk3);have HX3:=Lib.hid (HXB.out.keepL hk3);have HC:=Lib.hid (HMB.out w3 hs3 (HK3.out.bnd hB))
   clear hs3 hk3 HMB HNN j0 j1 j2 j3 j4 j5 j6;obtain⟨j0,j1,j2,j3,j4,j5,j6,-,-,-,-,-,-⟩:=HX3.out.box;dsimp only at j0 j1 j2 j3 j4 j5 j6
   go_wp2_with fail
   refine HC.out.mono ?_;rintro e w4 ⟨rfl,hs4,hk4⟩
   go_wp2_with fail
   go_ret;rw[HRR.out];exact⟨rfl,hs4,HK3.out.trans hk4⟩
 have e182:((op:Int)==182)=false:=by rw[beq_eq_false_iff_ne];omega
 have o182:=hop;clear hop;by_cases hop:op=184
 ·have e184:((op:Int)==184)=true:=by rw[hop];rfl
  have HRR:=Lib.hid (show R=(s.need (A5t ⟨op,n,m,cl,nm,ds,tx⟩) 8).member ⟨op,n,m,cl,nm,ds,tx⟩ 10 A3x by
   rw[HR.out];unfold LW.wide;rw[if_neg (show ¬A7f op=true by rw[hop];decide),if_pos (show B0k op=true by rw[hop];decide)])
  clear HR hop
  have HMB:=Lib.hid (fun w3 hs hB3=>A5n w3 B g (s.need (A5t ⟨op,n,m,cl,nm,ds,tx⟩) 8) ⟨op,n,m,cl,nm,ds,tx⟩ 10 52 A3x (fun args W=>rfl) (fun W s h1 h2=>A5k W s h1 h2) hs HF.out hn hB3 (by decide))
  dsimp only[IN.cells]at HMB;obtain⟨b,hb⟩:∃b,b=A5t ⟨op,n,m,cl,nm,ds,tx⟩:=⟨_,rfl⟩;rw[←hb]at HRR HMB;unfold A5t at hb;dsimp only at hb
  generalize(s.need b 8).member ⟨op,n,m,cl,nm,ds,tx⟩ 10 A3x=Q at*;have HNN:=Lib.hid (fun W (h:LoS W B g s)=>A0y W B g s b 8 h);by_cases hn0:n=0
  ·have t0:(n==0)=true:=by rw[hn0];rfl
   by_cases hm0:m=0
   ·have t1:(m==0)=true:=by rw[hm0];rfl
    obtain⟨bt,hbt⟩:∃bt,bt=decide (tx=[]):=⟨_,rfl⟩;have t2:(tx==[])=bt:=by rw[hbt,Bool.eq_iff_iff,beq_iff_eq,decide_eq_true_iff]
    have t3:tx.isEmpty=bt:=by rw[hbt,Bool.eq_iff_iff,List.isEmpty_iff,decide_eq_true_iff]
    have hbb:b=bt:=by rw[hb,hbt];simp[hn0,hm0]
    subst hbb;clear hb hbt hn0 hm0;go_enter Tryz.func119,Tryz.ntmps119
    go_upto_region 1 with fail
    generalize w.alloc (.cells #[.int .u8 (op:Nat),.int .i64 n,.int .i64 m,.string ⟨cl.toArray⟩,.string ⟨nm.toArray⟩,.string ⟨ds.toArray⟩,.string ⟨tx.toArray⟩] A1f)=W at*
    obtain⟨j0,j1,j2,j3,j4,j5,j6,-,-,-,-,-,-⟩:=HXB.out.box;dsimp only at j0 j1 j2 j3 j4 j5 j6
    go_wp2_with fail
    refine(HNN.out W HS1.out).mono ?_;rintro e w3 ⟨rfl,hs3,hk3⟩;have HK3:=Lib.hid (HK0.out.trans hk3);have HX3:=Lib.hid (HXB.out.keepL hk3);have HC:=Lib.hid (HMB.out w3 hs3 (HK3.out.bnd hB))
    clear hs3 hk3 HMB HNN j0 j1 j2 j3 j4 j5 j6;obtain⟨j0,j1,j2,j3,j4,j5,j6,-,-,-,-,-,-⟩:=HX3.out.box;dsimp only at j0 j1 j2 j3 j4 j5 j6
    go_wp2_with fail
    refine HC.out.mono ?_;rintro e w4 ⟨rfl,hs4,hk4⟩
    go_wp2_with fail
    go_ret;rw[HRR.out];exact⟨rfl,hs4,HK3.out.trans hk4⟩
   ·have t1:(m==0)=false:=by simpa using hm0
    have hbb:b=false:=by rw[hb];exact decide_eq_false (fun h=>hm0 h.2.1)
    subst hbb;clear hb hn0 hm0;go_enter Tryz.func119,Tryz.ntmps119
    go_upto_region 1 with fail
    generalize w.alloc (.cells #[.int .u8 (op:Nat),.int .i64 n,.int .i64 m,.string ⟨cl.toArray⟩,.string ⟨nm.toArray⟩,.string ⟨ds.toArray⟩,.string ⟨tx.toArray⟩] A1f)=W at*
    obtain⟨j0,j1,j2,j3,j4,j5,j6,-,-,-,-,-,-⟩:=HXB.out.box;dsimp only at j0 j1 j2 j3 j4 j5 j6
    go_wp2_with fail
    refine(HNN.out W HS1.out).mono ?_;rintro e w3 ⟨rfl,hs3,hk3⟩;have HK3:=Lib.hid (HK0.out.trans hk3);have HX3:=Lib.hid (HXB.out.keepL hk3);have HC:=Lib.hid (HMB.out w3 hs3 (HK3.out.bnd hB))
    clear hs3 hk3 HMB HNN j0 j1 j2 j3 j4 j5 j6;obtain⟨j0,j1,j2,j3,j4,j5,j6,-,-,-,-,-,-⟩:=HX3.out.box;dsimp only at j0 j1 j2 j3 j4 j5 j6
    go_wp2_with fail
    refine HC.out.mono ?_;rintro e w4 ⟨rfl,hs4,hk4⟩
    go_wp2_with fail
    go_ret;rw[HRR.out];exact⟨rfl,hs4,HK3.out.trans hk4⟩
  ·have t0:(n==0)=false:=by simpa using hn0
   have hbb:b=false:=by rw[hb];exact decide_eq_false (fun h=>hn0 h.1)
   subst hbb;clear hb hn0;go_enter Tryz.func119,Tryz.ntmps119
   go_upto_region 1 with fail
   generalize w.alloc (.cells #[.int .u8 (op:Nat),.int .i64 n,.int .i64 m,.string ⟨cl.toArray⟩,.string ⟨nm.toArray⟩,.string ⟨ds.toArray⟩,.string ⟨tx.toArray⟩] A1f)=W at*
   obtain⟨j0,j1,j2,j3,j4,j5,j6,-,-,-,-,-,-⟩:=HXB.out.box;dsimp only at j0 j1 j2 j3 j4 j5 j6
   go_wp2_with fail
   refine(HNN.out W HS1.out).mono ?_;rintro e w3 ⟨rfl,hs3,hk3⟩;have HK3:=Lib.hid (HK0.out.trans hk3);have HX3:=Lib.hid (HXB.out.keepL hk3);have HC:=Lib.hid (HMB.out w3 hs3 (HK3.out.bnd hB))
   clear hs3 hk3 HMB HNN j0 j1 j2 j3 j4 j5 j6;obtain⟨j0,j1,j2,j3,j4,j5,j6,-,-,-,-,-,-⟩:=HX3.out.box;dsimp only at j0 j1 j2 j3 j4 j5 j6
   go_wp2_with fail
   refine HC.out.mono ?_;rintro e w4 ⟨rfl,hs4,hk4⟩
   go_wp2_with fail
   go_ret;rw[HRR.out];exact⟨rfl,hs4,HK3.out.trans hk4⟩
 have e184:((op:Int)==184)=false:=by rw[beq_eq_false_iff_ne];omega
 have o184:=hop;clear hop
 have HRR:=Lib.hid (show R=(s.need (B8p ⟨op,n,m,cl,nm,ds,tx⟩) 8).cls cl (decide (op≠187)) by
  rw[HR.out];unfold LW.wide;rw[if_neg (show ¬A7f op=true by unfold A7f;simp[o178,o179,o180,o181]),if_neg (show ¬B0k op=true by unfold B0k;simp[o182,o184])])
 have hg:=B2j
 have he:∀W,(Op.equalIn 10000 A1f (.agg #[.int .u8 (op:Nat),.int .i64 n,.int .i64 m,.string ⟨cl.toArray⟩,.string ⟨nm.toArray⟩,.string ⟨ds.toArray⟩,.string ⟨tx.toArray⟩]) (.agg #[.int .u8 (op:Nat),.int .i64 0,.int .i64 0,.string ⟨cl.toArray⟩,.string ⟨#[]⟩,.string ⟨#[]⟩,.string ⟨#[]⟩])).run Tryz.prog W= .ok (B8p ⟨op,n,m,cl,nm,ds,tx⟩) W:=fun W=>by
  have h:=HEQ W ⟨op,0,0,cl,[],[],[]⟩;rw[show B0m ⟨op,n,m,cl,nm,ds,tx⟩ ⟨op,0,0,cl,[],[],[]⟩=B8p ⟨op,n,m,cl,nm,ds,tx⟩ by unfold B0m B8p;simp]at h;exact h
 obtain⟨b,hb⟩:∃b,b=B8p ⟨op,n,m,cl,nm,ds,tx⟩:=⟨_,rfl⟩;rw[←hb]at HRR he;obtain⟨ar,har⟩:∃ar,ar=decide (op≠187):=⟨_,rfl⟩;rw[←har]at HRR
 have hne:((op:Int) !=187)=ar:=by
  rw[har];by_cases h:op=187
  ·subst h;rfl
  ·have:¬(op:Int)=187:=by omega
   simp[h,this]
 have HCL:=Lib.hid (fun w3 hs hB3=>A4r w3 B g (s.need b 8) cl ar hs HF.out.cl (show s.l.length≤_ by omega) hB3);generalize(s.need b 8).cls cl ar=Q at*
 have HNN:=Lib.hid (fun W (h:LoS W B g s)=>A0y W B g s b 8 h);clear hb har o178 o179 o180 o181 o182 o184 HEQ HR;go_enter Tryz.func119,Tryz.ntmps119
 go_upto_region 1 with fail
 generalize w.alloc (.cells #[.int .u8 (op:Nat),.int .i64 n,.int .i64 m,.string ⟨cl.toArray⟩,.string ⟨nm.toArray⟩,.string ⟨ds.toArray⟩,.string ⟨tx.toArray⟩] A1f)=W at*
 obtain⟨j0,j1,j2,j3,j4,j5,j6,-,-,-,-,-,-⟩:=HXB.out.box;dsimp only at j0 j1 j2 j3 j4 j5 j6
 go_wp2_with fail
 refine(HNN.out W HS1.out).mono ?_;rintro e w3 ⟨rfl,hs3,hk3⟩;have HK3:=Lib.hid (HK0.out.trans hk3);have HX3:=Lib.hid (HXB.out.keepL hk3);have HC:=Lib.hid (HCL.out w3 hs3 (HK3.out.bnd hB))
 clear hs3 hk3 HCL HNN j0 j1 j2 j3 j4 j5 j6;obtain⟨j0,j1,j2,j3,j4,j5,j6,-,-,-,-,-,-⟩:=HX3.out.box;dsimp only at j0 j1 j2 j3 j4 j5 j6
 go_wp2_with fail
 refine HC.out.mono ?_;rintro e w4 ⟨rfl,hs4,hk4⟩
 go_wp2_with fail
 go_ret;rw[HRR.out];exact⟨rfl,hs4,HK3.out.trans hk4⟩
end
end Go.Proofs.YtclpkipaehpkdaaGreatDoor
