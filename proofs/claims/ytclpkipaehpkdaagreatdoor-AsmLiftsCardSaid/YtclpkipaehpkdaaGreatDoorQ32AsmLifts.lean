/- asm: own texts, merged (wip/merge3.py). No condition. -/
import Derived.Test.YtclpkipaehpkdaaGreatDoorQ31AsmLifts
set_option linter.unusedVariables false
set_option linter.unusedSimpArgs false
set_option maxRecDepth 100000
set_option maxHeartbeats 64000000
namespace Go.Proofs.YtclpkipaehpkdaaGreatDoor
section
open Go.ChangeShapes Go.WideShapes Go.ChangeAt Go.RowKit Go.Maps
structure UU.Fit(u:UU):Prop where
 nm:u.nm.length≤65536
 su:u.su.length≤65536
 fields:u.fields.length≤1024
 fd:∀f∈u.fields,f.nm.length≤65536∧f.ds.length≤65536
 methods:u.methods.length≤1024
 mt:∀m∈u.methods,m.Fit
theorem B8x(s:LW)(l:List IN)(x:IN):s.consts1 (l++[x])=if x.op=18 then((s.consts1 l).con x).1 else s.consts1 l:=by
 induction l generalizing s with
 |nil=>rfl
 |cons y l ih=>rw[List.cons_append,LW.consts1,LW.consts1,ih]
theorem B4f(s:LW)(l:List IN):(s.consts1 l).l.length≤s.l.length+4*l.length:=by
 induction l generalizing s with
 |nil=>exact Nat.le_refl _
 |cons x l ih=>
  rw[LW.consts1];have h1:=B7d s x
  have h2:=ih (if x.op=18 then(s.con x).1 else s)
  simp only[List.length_cons]
  split at h2<;>split<;>first|omega|contradiction
theorem C3g(s:LW)(l:List UM)(x:UM):s.consts (l++[x])=(s.consts l).consts1 x.code:=by
 induction l generalizing s with
 |nil=>rfl
 |cons y l ih=>rw[List.cons_append,LW.consts,LW.consts,ih]
theorem B6u(s:LW)(l:List UM)(h:∀m∈l,m.code.length≤4096):(s.consts l).l.length≤s.l.length+16384*l.length:=by
 induction l generalizing s with
 |nil=>exact Nat.le_refl _
 |cons x l ih=>
  rw[LW.consts];have h1:=B4f s x.code;have h2:=ih (s.consts1 x.code) (fun m hm=>h m (List.mem_cons_of_mem _ hm));have h3:=h x List.mem_cons_self;simp only[List.length_cons];omega
theorem B8v(w w0:World)(B g:Nat)(s:LW)(u:UU)(h:LoS w B g s)(hu:u.Rd w0)(hw:Below w0.heap.size w0 w)(h0B:w0.heap.size≤B)(hf:u.Fit)(hsz:s.l.length≤999900000000)(hB:B≤w.heap.size)(hB0:0<B):
  Calls Tryz.prog 31 #[.pointer (some ⟨g,0,none⟩),.agg u.cells.toArray] w (B2r (.tuple #[]) B g (s.consts u.methods) w):=by
 have hw0:0<w.heap.size:=by omega
 have hb1:Below w.heap.size w (w.alloc (.cells u.cells.toArray 32)):=A0e _ _;have HS1:=Lib.hid (h.below hb1);have HK1:=Lib.hid (A0x.of hb1:A0x B w (w.alloc (.cells u.cells.toArray 32)))
 have HU1:=Lib.hid (heap_alloc_last w (.cells u.cells.toArray 32));have HU:=Lib.hid hu;have HF:=Lib.hid hf;have HWB:=Lib.hid hw;have HML:=Lib.hid hu.methods.1;have hfm:=hf.methods;rw[HML.out]at hfm
 clear h hu hw hf hb1
 change Calls Tryz.prog 31 #[.pointer (some ⟨g,0,none⟩),.agg #[.string ⟨u.nm.toArray⟩,.string ⟨u.su.toArray⟩,.slice u.fa u.fn u.fc,.slice u.ma u.mn u.mc]] w (B2r (.tuple #[]) B g (s.consts u.methods) w)
 dsimp only[UU.cells]at HS1 HK1 HU1;go_enter Tryz.func31,Tryz.ntmps31
 go_upto_region 1 with fail
 generalize w.alloc (.cells #[.string ⟨u.nm.toArray⟩,.string ⟨u.su.toArray⟩,.slice u.fa u.fn u.fc,.slice u.ma u.mn u.mc] 32)=W at*
 have u3:W.cell? ⟨w.heap.size,3,none⟩=some (.slice u.ma u.mn u.mc):=A0a HU1.out 3 rfl
 go_wp2_with fail
 go_loopg [11] u.mn (fun gn i wr=>∃j:Nat,j≤u.mn∧gn=u.mn-j∧i= .int .i64 j∧Hid (LoS wr B g (s.consts (u.methods.take j)))∧Hid (A0x B w wr))
 case atStart=>exact⟨0,by omega,by omega,by go_num,HS1,HK1⟩
 case round=>
  clear HS1 HK1 HU1 u3;obtain⟨j,hj,rfl,rfl,HS,HK⟩:=hrel;by_cases hlt:j<u.mn
  ·have hbV:=HK.out.belowO HWB.out (Nat.le_refl _) h0B;have HRM:=Lib.hid ((HU.out.below hbV).methods);obtain⟨bq,off,m,hbq,hbl,hm,q⟩:=HRM.out.getC j hlt;have q0:=q 0 (by omega)
   have q1:=q 1 (by omega);have q2:=q 2 (by omega);have q3:=q 3 (by omega);have q4:=q 4 (by omega);have q5:=q 5 (by omega);have q6:=q 6 (by omega);have q7:=q 7 (by omega)
   rw[Nat.add_zero]at q0;simp only[UM.cells,List.getElem?_cons_zero,List.getElem?_cons_succ]at q0 q1 q2 q3 q4 q5 q6 q7;have hj1:(j:Int)<u.mn:=by omega
   have hmm:=List.mem_of_getElem? hm;have HFM:=Lib.hid (HF.out.mt m hmm);have HMR:=Lib.hid (HU.out.each m hmm)
   have HSN:=Lib.hid (show s.consts (u.methods.take (j+1))=(s.consts (u.methods.take j)).consts1 m.code by
    have hjl:=(List.getElem?_eq_some_iff.1 hm).1;rw[List.take_succ_eq_append_getElem hjl,(List.getElem?_eq_some_iff.1 hm).2,C3g])
   have hln:=B6u s (u.methods.take j) (fun m hm=>(HF.out.mt m (List.mem_of_mem_take hm)).code);rw[List.length_take,HML.out,Nat.min_eq_left hj]at hln
   generalize s.consts (u.methods.take j)=sj at*;have HCL:=Lib.hid HMR.out.code.1;have hcl:m.code.length≤4096:=HFM.out.code;rw[HCL.out]at hcl;clear q hm hmm HRM hbV
   go_upto_region 4 with fail
   have hal:=A0e wr (.cells #[.bool m.st,.string ⟨m.nm.toArray⟩,.string ⟨m.ds.toArray⟩,.int .i64 m.sk,.int .i64 m.lo,.slice m.ca m.cn m.cc,.slice m.ta m.tn m.tc,.slice m.ma m.mn m.mc] A0v)
   have HM1:=Lib.hid (show(wr.alloc (.cells #[.bool m.st,.string ⟨m.nm.toArray⟩,.string ⟨m.ds.toArray⟩,.int .i64 m.sk,.int .i64 m.lo,.slice m.ca m.cn m.cc,.slice m.ta m.tn m.tc,.slice m.ma m.mn m.mc] A0v)).heap[wr.heap.size]? =some (.cells m.cells.toArray A0v (0,0))from heap_alloc_last wr _)
   have HS2:=Lib.hid (HS.out.below hal);have HK2:=Lib.hid (HK.out.trans (A0x.of hal));clear hal q0 q1 q2 q3 q4 q5 q6 q7 hbq hbl HS HK
   generalize wr.alloc (.cells #[.bool m.st,.string ⟨m.nm.toArray⟩,.string ⟨m.ds.toArray⟩,.int .i64 m.sk,.int .i64 m.lo,.slice m.ca m.cn m.cc,.slice m.ta m.tn m.tc,.slice m.ma m.mn m.mc] A0v)=W2 at*
   generalize wr.heap.size=gm at*;have m5:W2.cell? ⟨gm,5,none⟩=some (.slice m.ca m.cn m.cc):=A0a HM1.out 5 rfl
   go_wp2_with fail
   go_loopg [18] m.cn (fun gn i wr=>∃k:Nat,k≤m.cn∧gn=m.cn-k∧i= .int .i64 k∧Hid (LoS wr B g (sj.consts1 (m.code.take k)))∧Hid (A0x B w wr))
   case atStart=>exact⟨0,by omega,by omega,by go_num,HS2,HK2⟩
   case round=>
    clear HS2 HK2 HM1 m5;obtain⟨k,hk,rfl,rfl,HS,HK⟩:=hrel;by_cases hlk:k<m.cn
    ·have hbV:=HK.out.belowO HWB.out (Nat.le_refl _) h0B;have HRC:=Lib.hid ((HMR.out.below hbV).code);obtain⟨b,off2,x,hbq,hbl,hx,q⟩:=HRC.out.getC k hlk;have q0:=q 0 (by omega)
     have q1:=q 1 (by omega);have q2:=q 2 (by omega);have q3:=q 3 (by omega);have q4:=q 4 (by omega);have q5:=q 5 (by omega);have q6:=q 6 (by omega);rw[Nat.add_zero]at q0
     simp only[IN.cells,List.getElem?_cons_zero,List.getElem?_cons_succ]at q0 q1 q2 q3 q4 q5 q6;have hk1:(k:Int)<m.cn:=by omega
     have HFX:=Lib.hid (HFM.out.ins x (List.mem_of_getElem? hx))
     have HSM:=Lib.hid (show sj.consts1 (m.code.take (k+1))=if x.op=18 then((sj.consts1 (m.code.take k)).con x).1 else sj.consts1 (m.code.take k) by
      have hjl:=(List.getElem?_eq_some_iff.1 hx).1;rw[List.take_succ_eq_append_getElem hjl,(List.getElem?_eq_some_iff.1 hx).2,B8x])
     have hlm:=B4f sj (m.code.take k);rw[List.length_take,HCL.out,Nat.min_eq_left hk]at hlm;generalize sj.consts1 (m.code.take k)=sk at*;obtain⟨op,nn,mm,cl,nm,ds,tx⟩:=x
     dsimp only at q0 q1 q2 q3 q4 q5 q6 HSM;clear q hx HRC hbV
     go_upto_region 7 with fail
     have hal:=A0e wr (.cells #[.int .u8 (op:Nat),.int .i64 nn,.int .i64 mm,.string ⟨cl.toArray⟩,.string ⟨nm.toArray⟩,.string ⟨ds.toArray⟩,.string ⟨tx.toArray⟩] A1f)
     have HXB:=Lib.hid (show A3w wr.heap.size ⟨op,nn,mm,cl,nm,ds,tx⟩ (wr.alloc (.cells #[.int .u8 (op:Nat),.int .i64 nn,.int .i64 mm,.string ⟨cl.toArray⟩,.string ⟨nm.toArray⟩,.string ⟨ds.toArray⟩,.string ⟨tx.toArray⟩] A1f))from heap_alloc_last wr _)
     have HS3:=Lib.hid (HS.out.below hal);have HK3:=Lib.hid (HK.out.trans (A0x.of hal));clear hal q0 q1 q2 q3 q4 q5 q6 hbq hbl HS HK
     generalize wr.alloc (.cells #[.int .u8 (op:Nat),.int .i64 nn,.int .i64 mm,.string ⟨cl.toArray⟩,.string ⟨nm.toArray⟩,.string ⟨ds.toArray⟩,.string ⟨tx.toArray⟩] A1f)=W3 at*
     generalize wr.heap.size=gx at*;obtain⟨j0,j1,j2,j3,j4,j5,j6,-,-,-,-,-,-⟩:=HXB.out.box;dsimp only at j0 j1 j2 j3 j4 j5 j6;by_cases o18:op=18
     ·have e18:((op:Int)==18)=true:=by rw[o18];rfl
      rw[if_pos o18]at HSM;have HCO:=Lib.hid (B5b W3 B g sk ⟨op,nn,mm,cl,nm,ds,tx⟩ HS3.out HFX.out (by omega) (HK3.out.bnd hB));dsimp only[IN.cells]at HCO;clear o18
      go_wp2_with fail
      refine HCO.out.mono ?_;rintro e V4 ⟨rfl,hs4,hk4⟩;have HS4:=Lib.hid hs4;have HK4:=Lib.hid (HK3.out.trans hk4);clear hs4 hk4 HCO HS3 HK3 HXB j0 j1 j2 j3 j4 j5 j6
      go_wp2_with fail
      go_roundg (m.cn-(k+1))
      case measure=>omega
      case rel=>exact⟨k+1,by omega,rfl,by go_num,Lib.hid (by rw[HSM.out];exact HS4.out),HK4⟩
     ·have e18:((op:Int)==18)=false:=by rw[beq_eq_false_iff_ne];omega
      rw[if_neg o18]at HSM;clear o18
      go_wp2_with fail
      go_roundg (m.cn-(k+1))
      case measure=>omega
      case rel=>exact⟨k+1,by omega,rfl,by go_num,Lib.hid (by rw[HSM.out];exact HS3.out),HK3⟩
    ·have hkt:k=m.cn:=by omega
     subst hkt;have hfull:m.code.take m.cn=m.code:=List.take_of_length_le (by rw[HCL.out];exact Nat.le_refl _);rw[hfull]at HS;clear hfull hlk hk
     go_wp2_with fail
     go_roundg (u.mn-(j+1))
     case measure=>omega
     case rel=>exact⟨j+1,by omega,rfl,by go_num,Lib.hid (by rw[HSN.out];exact HS.out),HK⟩
  ·have hkt:j=u.mn:=by omega
   subst hkt;have hfull:u.methods.take u.mn=u.methods:=List.take_of_length_le (by rw[HML.out];exact Nat.le_refl _);rw[hfull]at HS;clear hfull hlt hj
   go_wp2_with fail
   go_end0;exact⟨rfl,HS.out,HK.out⟩
structure LW.Good(s:LW):Prop where
 sz:s.e=0→s.l.length≤1024
 tx:∀c∈s.l,c.s.length≤65536
theorem D5w{er k:Int}{ok:Bool}(h:A2w er ok k=0):er=0:=by
 unfold A2w at h;split at h
 ·next h1=>exact h1.2
 ·exact h
theorem LW.Good.need{s:LW}(h:s.Good)(ok:Bool)(k:Int):(s.need ok k).Good:=⟨fun he=>h.sz (D5w he),h.tx⟩
theorem LW.Good.put{s:LW}(h:s.Good)(c:KV)(hc:c.s.length≤65536):(s.put c).1.Good:=by
 unfold LW.put;split
 ·exact h
 ·refine⟨fun he=> ?_,fun k hk=> ?_⟩
  ·have he':A2w s.e (decide ((A9q s.l c).length≤1024)) 9=0:=he;unfold A2w at he';split at he'
   ·exact absurd he' (by decide)
   ·next h1=>
    show(A9q s.l c).length≤1024
    rcases Decidable.em ((A9q s.l c).length≤1024)with h2|h2
    ·exact h2
    ·exact absurd ⟨decide_eq_false h2,he'⟩ h1
  ·have hk':k∈A9q s.l c:=hk;unfold A9q at hk'
   rcases List.mem_append.1 hk' with h1|h1
   ·rcases List.mem_append.1 h1 with h2|h2
    ·exact h.tx k h2
    ·rw[List.mem_singleton.1 h2];exact hc
   ·split at h1
    ·rw[List.mem_singleton.1 h1];decide
    ·cases h1
theorem LW.Good.text{s:LW}(h:s.Good)(t:List UInt8)(ht:t.length≤65536):(s.text t).1.Good:=h.put _ ht
theorem LW.Good.cls{s:LW}(h:s.Good)(t:List UInt8)(arr:Bool)(ht:t.length≤65536):(s.cls t arr).1.Good:=((h.need _ _).text t ht).put _ (by simp)
theorem LW.Good.member{s:LW}(h:s.Good)(x:IN)(tag:Int)(p:List UInt8→Bool)(hx:A9c x):(s.member x tag p).1.Good:=by
 unfold LW.member;dsimp only;exact(((((h.need _ _).cls _ _ hx.cl).text _ hx.nm).text _ hx.ds).put _ (by simp)).put _ (by simp)
theorem LW.Good.con{s:LW}(h:s.Good)(x:IN)(hx:A9c x):(s.con x).1.Good:=by
 unfold LW.con;split
 ·exact(h.need _ _).put _ (by simp)
 ·split
  ·exact(h.text _ hx.tx).put _ (by simp)
  ·split
   ·exact h.put _ (by simp)
   ·exact h.need _ _
theorem LW.Good.wide{s:LW}(h:s.Good)(x:IN)(hx:A9c x):(s.wide x).1.Good:=by
 unfold LW.wide;split
 ·exact(h.need _ _).member _ _ _ hx
 ·split
  ·exact(h.need _ _).member _ _ _ hx
  ·exact(h.need _ _).cls _ _ hx.cl
theorem LW.Good.raw{s:LW}(h:s.Good)(p:Nat)(x:IN)(hx:A9c x):(s.raw p x).1.Good:=by
 unfold LW.raw;split
 ·exact((h.need _ _).con x hx).need _ _
 ·split
  ·exact h.wide x hx
  ·split
   ·exact h.need _ _
   ·exact(h.need _ _).need _ _
theorem LW.Good.raws{s:LW}(h:s.Good)(p:Nat)(l:List IN)(hl:∀x∈l,A9c x):(s.raws p l).1.Good:=by
 induction l generalizing s p with
 |nil=>exact h
 |cons x l ih=>
  rw[LW.raws];exact ih (h.raw p x (hl x List.mem_cons_self)) _ (fun y hy=>hl y (List.mem_cons_of_mem _ hy))
theorem LW.Good.goes{s:LW}(h:s.Good)(l k:List IN):(s.goes l k).Good:=by
 induction k generalizing s with
 |nil=>exact h
 |cons x k ih=>
  rw[LW.goes];split
  ·exact ih (h.need _ _)
  ·exact ih h
theorem LW.Good.code{s:LW}(h:s.Good)(l:List IN)(hl:∀x∈l,A9c x):(s.code l).1.Good:=((h.raws 0 l hl).goes l l).need _ _
theorem LW.Good.slot{s:LW}(h:s.Good)(t:List UInt8)(ht:t.length≤65536):(s.slot t).1.Good:=by
 unfold LW.slot;split
 ·exact h
 split
 ·exact h
 split
 ·exact h
 split
 ·exact h
 split
 ·exact h.cls _ _ (Nat.le_trans (C4k t) ht)
 ·exact(h.need _ _).cls _ _ ht
theorem LW.Good.slots{s:LW}(h:s.Good)(l:List (List UInt8))(hl:∀t∈l,t.length≤65536):(s.slots l).1.Good:=by
 induction l generalizing s with
 |nil=>exact h
 |cons x l ih=>
  rw[LW.slots];exact ih (h.slot x (hl x List.mem_cons_self)) (fun y hy=>hl y (List.mem_cons_of_mem _ hy))
theorem LW.Good.place{s:LW}(h:s.Good)(l:List IN)(n most:Int):(s.place l n most).1.Good:=by
 unfold LW.place;split
 ·exact h.need _ _
 ·exact h
theorem LW.Good.trap{s:LW}(h:s.Good)(l:List IN)(t:UT)(ht:t.cl.length≤65536):(s.trap l t).1.Good:=by
 unfold LW.trap;dsimp only;have h3:=((h.place l t.fr (l.length-1)).place l t.tt l.length).place l t.pl (l.length-1);split
 ·exact h3
 ·exact h3.cls _ _ ht
theorem LW.Good.traps{s:LW}(h:s.Good)(c:List IN)(l:List UT)(hl:∀t∈l,t.cl.length≤65536):(s.traps c l).1.Good:=by
 induction l generalizing s with
 |nil=>exact h
 |cons x l ih=>
  rw[LW.traps];exact ih (h.trap c x (hl x List.mem_cons_self)) (fun y hy=>hl y (List.mem_cons_of_mem _ hy))
theorem LW.Good.map{s:LW}(h:s.Good)(l:List IN)(t:UP)(ht:t.Fit):(s.map l t).1.Good:=((h.place l t.pl (l.length-1)).slots _ ht.lt).slots _ ht.st
theorem LW.Good.maps{s:LW}(h:s.Good)(c:List IN)(l:List UP)(hl:∀t∈l,t.Fit):(s.maps c l).1.Good:=by
 induction l generalizing s with
 |nil=>exact h
 |cons x l ih=>
  rw[LW.maps];exact ih (h.map c x (hl x List.mem_cons_self)) (fun y hy=>hl y (List.mem_cons_of_mem _ hy))
theorem LW.Good.method{s:LW}(h:s.Good)(m:UM)(hm:m.Fit):(s.method m).1.Good:=by
 unfold LW.method;dsimp only;have h1:=(((h.need (A7v m.nm&&A3x m.ds) 8).text _ hm.nm).text _ hm.ds).text A7u (by decide);split
 ·exact((h1.code _ hm.ins).traps _ _ hm.tr).maps _ _ hm.mp
 ·exact(((h1.text B6c (by decide)).code _ hm.ins).traps _ _ hm.tr).maps _ _ hm.mp
theorem LW.Good.methods{s:LW}(h:s.Good)(l:List UM)(hl:∀t∈l,t.Fit):(s.methods l).1.Good:=by
 induction l generalizing s with
 |nil=>exact h
 |cons x l ih=>
  rw[LW.methods];exact ih (h.method x (hl x List.mem_cons_self)) (fun y hy=>hl y (List.mem_cons_of_mem _ hy))
theorem LW.Good.field{s:LW}(h:s.Good)(f:UF)(hf:f.nm.length≤65536∧f.ds.length≤65536):(s.field f).1.Good:=((h.need _ _).text _ hf.1).text _ hf.2
theorem LW.Good.fields{s:LW}(h:s.Good)(l:List UF)(hl:∀f∈l,f.nm.length≤65536∧f.ds.length≤65536):(s.fields l).1.Good:=by
 induction l generalizing s with
 |nil=>exact h
 |cons x l ih=>
  rw[LW.fields];exact ih (h.field x (hl x List.mem_cons_self)) (fun y hy=>hl y (List.mem_cons_of_mem _ hy))
theorem LW.Good.consts1{s:LW}(h:s.Good)(l:List IN)(hl:∀x∈l,A9c x):(s.consts1 l).Good:=by
 induction l generalizing s with
 |nil=>exact h
 |cons x l ih=>
  rw[LW.consts1];split
  ·exact ih (h.con x (hl x List.mem_cons_self)) (fun y hy=>hl y (List.mem_cons_of_mem _ hy))
  ·exact ih h (fun y hy=>hl y (List.mem_cons_of_mem _ hy))
theorem LW.Good.consts{s:LW}(h:s.Good)(l:List UM)(hl:∀m∈l,m.Fit):(s.consts l).Good:=by
 induction l generalizing s with
 |nil=>exact h
 |cons x l ih=>
  rw[LW.consts];exact ih (h.consts1 x.code (hl x List.mem_cons_self).ins) (fun y hy=>hl y (List.mem_cons_of_mem _ hy))
theorem C4b(u:UU)(h:u.Fit):(B5a u).1.Good:=by
 unfold B5a;dsimp only;have h0:(⟨[kz],0⟩:LW).Good:=⟨fun _=>by simp,fun c hc=>by rw[List.mem_singleton.1 hc];decide⟩;have h1:=(h0.consts u.methods h.mt).cls u.nm false h.nm;split
 ·exact(h1.fields _ h.fd).methods _ h.mt
 ·exact((h1.cls u.su false h.su).fields _ h.fd).methods _ h.mt
theorem C6v(s:LW)(m:UM)(hm:m.Fit):(s.method m).1.l.length≤s.l.length+10000000:=by
 unfold LW.method;dsimp only;have h0:(s.need (A7v m.nm&&A3x m.ds) 8).l=s.l:=rfl;have h1:=A2h (s.need (A7v m.nm&&A3x m.ds) 8) m.nm;rw[h0]at h1
 have h2:=A2h ((s.need (A7v m.nm&&A3x m.ds) 8).text m.nm).1 m.ds;have h3:=A2h (((s.need (A7v m.nm&&A3x m.ds) 8).text m.nm).1.text m.ds).1 A7u
 generalize((((s.need (A7v m.nm&&A3x m.ds) 8).text m.nm).1.text m.ds).1.text A7u).1=c at*
 have hc:∀s5:LW,s5.l.length≤c.l.length+2→((((s5.code m.code).1.traps m.code m.traps).1).maps m.code m.maps).1.l.length≤s.l.length+10000000:=fun s5 h5=>by
  have h6:=C3y s5 m.code;have h7:=B5j (s5.code m.code).1 m.code m.traps;have h8:=C4e ((s5.code m.code).1.traps m.code m.traps).1 m.code m.maps hm.mp;have a1:=hm.code;have a2:=hm.traps
  have a3:=hm.maps;omega
 split
 ·exact hc _ (by omega)
 ·exact hc _ (A2h c B6c)
theorem C2a(s:LW)(l:List UM)(hl:∀m∈l,m.Fit):(s.methods l).1.l.length≤s.l.length+10000000*l.length:=by
 induction l generalizing s with
 |nil=>exact Nat.le_refl _
 |cons x l ih=>
  rw[LW.methods];have h1:=C6v s x (hl x List.mem_cons_self);have h2:=ih (s.method x).1 (fun y hy=>hl y (List.mem_cons_of_mem _ hy));simp only[List.length_cons];omega
theorem D0f(s:LW)(f:UF):(s.field f).1.l.length≤s.l.length+4:=by
 unfold LW.field;dsimp only;have h0:(s.need (A7v f.nm&&typeB f.ds) 8).l=s.l:=rfl;have h1:=A2h (s.need (A7v f.nm&&typeB f.ds) 8) f.nm;rw[h0]at h1
 have h2:=A2h ((s.need (A7v f.nm&&typeB f.ds) 8).text f.nm).1 f.ds;omega
theorem B6j(s:LW)(l:List UF):(s.fields l).1.l.length≤s.l.length+4*l.length:=by
 induction l generalizing s with
 |nil=>exact Nat.le_refl _
 |cons x l ih=>
  rw[LW.fields];have h1:=D0f s x;have h2:=ih (s.field x).1;simp only[List.length_cons];omega
theorem C1f(s:LW)(l:List UF)(t:UF):s.fields (l++[t])=((((s.fields l).1).field t).1,(s.fields l).2++[(((s.fields l).1).field t).2]):=by
 induction l generalizing s with
 |nil=>rfl
 |cons x l ih=>
  rw[List.cons_append,LW.fields,LW.fields,ih];rfl
theorem B9t(s:LW)(l:List UM)(t:UM):s.methods (l++[t])=((((s.methods l).1).method t).1,(s.methods l).2++[(((s.methods l).1).method t).2]):=by
 induction l generalizing s with
 |nil=>rfl
 |cons x l ih=>
  rw[List.cons_append,LW.methods,LW.methods,ih];rfl
theorem B6f(s:LW)(l:List UF):(s.fields l).2.length=l.length:=by
 induction l generalizing s with
 |nil=>rfl
 |cons x l ih=>rw[LW.fields,List.length_cons,List.length_cons,ih]
theorem B4u(s:LW)(l:List UM):(s.methods l).2.length=l.length:=by
 induction l generalizing s with
 |nil=>rfl
 |cons x l ih=>rw[LW.methods,List.length_cons,List.length_cons,ih]
abbrev A4v:=26
abbrev D5j:=75
abbrev UnT:=32
def KF.lp(f:KF):KF:=⟨none,0,0,f.pool,f.th,f.su,none,0,0,f.fields,none,0,0,f.methods.map KM.lp⟩
structure KF.Ow(x:KF)(w:World)(B:Nat):Prop where
 fields:w.ownsRow B D5j 3 (.slice x.fa x.fn x.fc) x.fn (x.fields.flatMap KD.cells)
 methods:w.ownsRow B FMT 8 (.slice x.ma x.mn x.mc) x.mn (x.methods.flatMap KM.cells)
 each:∀m∈x.methods,m.Ow w B
theorem KF.Ow.keepL{x:KF}{B B':Nat}{w w':World}(h:x.Ow w B')(k:A0x B w w'):x.Ow w' B':=⟨A0x.own h.fields k (by decide) (by decide),A0x.own h.methods k (by decide) (by decide),fun m hm=>(h.each m hm).keepL k⟩
theorem KF.Ow.keptT{x:KF}{B':Nat}{w w':World}{e:TypeId}(h:x.Ow w B')(k:A3a e w w')(h0:D5j≠e)(h9:FMT≠e)(h1:5≠e)(h2:TrT≠e)(h3:MpT≠e)(h4:SlT≠e):x.Ow w' B':=⟨A0z h.fields k h0,A0z h.methods k h9,fun m hm=>(h.each m hm).keptT k h1 h2 h3 h4⟩
theorem KF.Ow.fn'{x:KF}{V:World}{B:Nat}(h:x.Ow V B):x.fields.length=x.fn:=by
 have h1:=h.fields.1;rw[A6p KD.cells_length]at h1;omega
theorem KF.Ow.mn'{x:KF}{V:World}{B:Nat}(h:x.Ow V B):x.methods.length=x.mn:=by
 have h1:=h.methods.1;rw[A6p KM.cells_length]at h1;omega
theorem KF.Ow.fields1{x:KF}{w w':World}{B:Nat}(h:x.Ow w B)(k:A3a D5j w w'){a:Option Addr}{n c:Nat}{t:KD}(ho:w'.ownsRow B D5j 3 (.slice a n c) n ((x.fields++[t]).flatMap KD.cells)):KF.Ow {x with fa:=a,fn:=n,fc:=c,fields:=x.fields++[t]} w' B:=
 ⟨ho,A0z h.methods k (by decide),fun m hm=>(h.each m hm).keptT k (by decide) (by decide) (by decide) (by decide)⟩
theorem KF.Ow.methods1{x:KF}{w w':World}{B:Nat}(h:x.Ow w B)(k:A3a FMT w w'){a:Option Addr}{n c:Nat}{t:KM}(ht:t.Ow w' B)(ho:w'.ownsRow B FMT 8 (.slice a n c) n ((x.methods++[t]).flatMap KM.cells)):KF.Ow {x with ma:=a,mn:=n,mc:=c,methods:=x.methods++[t]} w' B:=
 ⟨A0z h.fields k (by decide),ho,fun m hm=>by
  rcases List.mem_append.1 hm with hm|hm
  ·exact(h.each m hm).keptT k (by decide) (by decide) (by decide) (by decide)
  ·rw[List.mem_singleton.1 hm];exact ht⟩
structure FlH(w V:World)(g:Nat)(u:UU)(s:LW):Prop where
 hs:LoS V w.heap.size g s
 hk:A0x w.heap.size w V
 u:V.heap[w.heap.size]? =some (.cells u.cells.toArray UnT (0,0))
 z:V.heap[w.heap.size+1]? =some (.cells #[.slice none 0 0,.int .i64 0,.int .i64 0,.slice none 0 0,.slice none 0 0] A4v (0,0))
structure FlJ(w V:World)(g go:Nat)(u:UU)(x:KF)(s:LW):Prop where
 h:FlH w V g u s
 o:V.heap[go]? =some (.cells x.cells.toArray A4v (0,0))
 w:x.Ow V w.heap.size
theorem FlH.call{w V V':World}{g:Nat}{u:UU}{s s':LW}(h:FlH w V g u s)(hs:LoS V' w.heap.size g s')(hk:A0x w.heap.size V V'):FlH w V' g u s':=
 ⟨hs,h.hk.trans hk,hk.row h.u (by decide) (by decide),hk.row h.z (by decide) (by decide)⟩
theorem FlJ.call{w V V':World}{g go:Nat}{u:UU}{x:KF}{s s':LW}(h:FlJ w V g go u x s)(hs:LoS V' w.heap.size g s')(hk:A0x w.heap.size V V'):FlJ w V' g go u x s':=
 ⟨h.h.call hs hk,hk.row h.o (by decide) (by decide),h.w.keepL hk⟩
theorem FlH.below{w V V':World}{g:Nat}{u:UU}{s:LW}(h:FlH w V g u s)(hb:Below V.heap.size V V'):FlH w V' g u s:=h.call (h.hs.below hb) (A0x.of hb)
theorem FlJ.below{w V V':World}{g go:Nat}{u:UU}{x:KF}{s:LW}(h:FlJ w V g go u x s)(hb:Below V.heap.size V V'):FlJ w V' g go u x s:=h.call (h.h.hs.below hb) (A0x.of hb)
theorem FlH.put{w V:World}{g go:Nat}{u:UU}{x x':KF}{s:LW}(h:FlH w V g u s)(ho:V.heap[go]? =some (.cells x.cells.toArray A4v (0,0)))(hw:w.heap.size+1<go)(o:Nat)(v:Value)(he:x.cells.toArray.setIfInBounds o v=x'.cells.toArray)(hx:x'.Ow V w.heap.size):
  FlJ w (V.setCell ⟨go,o,none⟩ v) g go u x' s:=by
 have hkt:=A3v ho o v
 exact⟨⟨h.hs.setO ho (by decide) (by decide) (by omega) o v,h.hk.thenB ((Below.refl _ _).setCell (show w.heap.size≤go by omega) v),hkt.2 _ _ _ _ h.u (by decide),A1c h.z (by omega) o v⟩,
  by rw[←he];exact A1d ho o v,hx.keptT hkt (by decide) (by decide) (by decide) (by decide) (by decide) (by decide)⟩
theorem FlJ.app{w V w9:World}{g go:Nat}{u:UU}{x:KF}{s:LW}{ob:Obj}{e:TypeId}{size:Nat}{v:Value}{n:Nat}{xs:List Value}(h:FlJ w V g go u x s)(hw0:0<w.heap.size)
  (ho:V.ownsRow w.heap.size e size v n xs) (hg:(V.alloc ob).grownBy w9 v.ownBlock) (hb:Below w.heap.size V w9) (h1:e≠A6h) (h2:e≠B3x) (h3:UnT≠e) (h4:A4v≠e):
  FlH w w9 g u s∧w9.heap[go]? =some (.cells x.cells.toArray A4v (0,0)):=by
 have hkt:=A3a.app ho hg;exact⟨⟨h.h.hs.app ho hg h1 h2 hw0,h.h.hk.thenB hb,hkt.2 _ _ _ _ h.h.u h3,hkt.2 _ _ _ _ h.h.z h4⟩,hkt.2 _ _ _ _ h.o h4⟩
theorem KF.lp_fields1{x:KF}{a b:Int}{P:List KV}{T:List KD}{M:List KM}(h:x.lp=⟨none,0,0,P,a,b,none,0,0,T,none,0,0,M⟩)(ta:Option Addr)(tn tc:Nat)(k:KD):
  KF.lp {x with fa:=ta,fn:=tn,fc:=tc,fields:=x.fields++[k]}=⟨none,0,0,P,a,b,none,0,0,T++[k],none,0,0,M⟩:=by
 simp only[KF.lp,KF.mk.injEq]at h⊢;obtain⟨-,-,-,e1,e2,e3,-,-,-,e4,-,-,-,e5⟩:=h;exact⟨trivial,trivial,trivial,e1,e2,e3,trivial,trivial,trivial,by rw[e4],trivial,trivial,trivial,e5⟩
theorem KF.lp_methods1{x:KF}{a b:Int}{P:List KV}{T:List KD}{M:List KM}(h:x.lp=⟨none,0,0,P,a,b,none,0,0,T,none,0,0,M⟩)(ta:Option Addr)(tn tc:Nat)(k:KM):
  KF.lp {x with ma:=ta,mn:=tn,mc:=tc,methods:=x.methods++[k]}=⟨none,0,0,P,a,b,none,0,0,T,none,0,0,M++[k.lp]⟩:=by
 simp only[KF.lp,KF.mk.injEq]at h⊢;obtain⟨-,-,-,e1,e2,e3,-,-,-,e4,-,-,-,e5⟩:=h
 exact⟨trivial,trivial,trivial,e1,e2,e3,trivial,trivial,trivial,e4,trivial,trivial,trivial,by rw[List.map_append,e5];rfl⟩
theorem D9g:StE 23 D5j (.agg #[.int .i64 0,.int .i64 0,.int .i64 0]) 3 24:=⟨by kernel_rfl,by kernel_rfl,rfl⟩
theorem D9y:StE 24 FMT (.agg #[.int .i64 0,.int .i64 0,.int .i64 0,.int .i64 0,.int .i64 0,.slice none 0 0,.slice none 0 0,.slice none 0 0]) 8 112:=⟨by kernel_rfl,by kernel_rfl,rfl⟩
theorem A6x:(Tryz.prog.info? A4v).map (·.size)=some 5:=by kernel_rfl
theorem C3v(x:KF):x.cells.toArray.all (·.oneCell')=true:=by simp[KF.cells,Value.oneCell']
end
end Go.Proofs.YtclpkipaehpkdaaGreatDoor
