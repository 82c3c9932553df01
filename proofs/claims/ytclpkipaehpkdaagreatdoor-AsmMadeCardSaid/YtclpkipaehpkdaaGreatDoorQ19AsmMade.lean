/- asm -/
import Derived.Test.YtclpkipaehpkdaaGreatDoorQ18AsmMade
import Derived.Test.YtclpkipaehpkdaaGreatDoorQ11AsmMade
set_option linter.unusedVariables false
set_option linter.unusedSimpArgs false
set_option maxRecDepth 100000
set_option maxHeartbeats 64000000
namespace Go.Proofs.YtclpkipaehpkdaaGreatDoor
section
open Go.ChangeShapes Go.WideShapes Go.ChangeAt Go.RowKit Go.Maps
structure UU.Fit(u:UU):Prop where
 nm:u.nm.length<=65536
 su:u.su.length<=65536
 fields:u.fields.length<=1024
 fd:∀f∈u.fields,f.nm.length<=65536/\f.ds.length<=65536
 methods:u.methods.length<=1024
 mt:∀m∈u.methods,m.Fit
theorem C0i(s:LW)(l:List IN)(x:IN):s.consts1 (l++[x])=if x.op=18 then((s.consts1 l).con x).1 else s.consts1 l:=by
 induction l generalizing s with
 |nil=>rfl
 |cons y l ih=>rw[List.cons_append,LW.consts1,LW.consts1,ih]
theorem B4f(s:LW)(l:List IN):(s.consts1 l).l.length<=s.l.length+4*l.length:=by
 induction l generalizing s with
 |nil=>exact Nat.le_refl _
 |cons x l ih=>
  rw[LW.consts1];have h1:=B7m s x
  have h2:=ih (if x.op=18 then(s.con x).1 else s)
  simp only[List.length_cons]
  split at h2<;>split<;>first|omega|contradiction
theorem C1d(s:LW)(l:List UM)(x:UM):s.consts (l++[x])=(s.consts l).consts1 x.code:=by
 induction l generalizing s with
 |nil=>rfl
 |cons y l ih=>rw[List.cons_append,LW.consts,LW.consts,ih]
theorem B5x(s:LW)(l:List UM)(h:∀m∈l,m.code.length<=4096):(s.consts l).l.length<=s.l.length+16384*l.length:=by
 induction l generalizing s with
 |nil=>exact Nat.le_refl _
 |cons x l ih=>
  rw[LW.consts];have h1:=B4f s x.code;have h2:=ih (s.consts1 x.code) (fun m hm=>h m (List.mem_cons_of_mem _ hm));have h3:=h x List.mem_cons_self;simp only[List.length_cons];omega
theorem B8z(w w0:World)(B g:Nat)(s:LW)(u:UU)(h:LoS w B g s)(hu:u.Rd w0)(hw:Below w0.heap.size w0 w)(h0B:w0.heap.size<=B)(hf:u.Fit)(hsz:s.l.length<=999900000000)(hB:B<=w.heap.size)(hB0:0<B):
  Calls Tryz.prog 31 #[.pointer (some ⟨g,0,none⟩),.agg u.cells.toArray] w (B1y (.tuple #[]) B g (s.consts u.methods) w):=by
 have hw0:0<w.heap.size:=by omega
 have hb1:Below w.heap.size w (w.alloc (.cells u.cells.toArray 32)):=A0f _ _;have HS1:=hzz (h.below hb1);have HK1:=hzz (A0u.of hb1:A0u B w (w.alloc (.cells u.cells.toArray 32)))
 have HU1:=hzz (heap_alloc_last w (.cells u.cells.toArray 32));have HU:=hzz hu;have HF:=hzz hf;have HWB:=hzz hw;have HML:=hzz hu.methods.1;have hfm:=hf.methods;rw[HML.out]at hfm
 clear h hu hw hf hb1
 change Calls Tryz.prog 31 #[.pointer (some ⟨g,0,none⟩),.agg #[.string ⟨u.nm.toArray⟩,.string ⟨u.su.toArray⟩,.slice u.fa u.fn u.fc,.slice u.ma u.mn u.mc]] w (B1y (.tuple #[]) B g (s.consts u.methods) w)
 dsimp only[UU.cells]at HS1 HK1 HU1;go_enter Tryz.func31,Tryz.ntmps31
 go_upto_region 1 with fail
 generalize w.alloc _=W at*;have u3:W.cell? ⟨w.heap.size,3,none⟩=some (.slice u.ma u.mn u.mc):=A0a HU1.out 3 rfl
 go_wp2_with fail
 go_loopg [11] u.mn (fun gn i wr=>∃j:Nat,j<=u.mn/\gn=u.mn-j/\i= .int .i64 j/\Hid (LoS wr B g (s.consts (u.methods.take j)))/\Hid (A0u B w wr))
 case atStart=>exact⟨0,by omega,by omega,by go_num,HS1,HK1⟩
 clear HS1 HK1 HU1 u3;obtain⟨j,hj,rfl,rfl,HS,HK⟩:=hrel;by_cases hlt:j<u.mn
 ·have hbV:=HK.out.belowO HWB.out nlz h0B;have HRM:=hzz ((HU.out.below hbV).methods);obtain⟨bq,off,m,hbq,hbl,hm,q⟩:=HRM.out.getC j hlt;have q0:=q 0 (by omega);have q1:=q 1 (by omega)
  have q2:=q 2 (by omega);have q3:=q 3 (by omega);have q4:=q 4 (by omega);have q5:=q 5 (by omega);have q6:=q 6 (by omega);have q7:=q 7 (by omega);rw[Nat.add_zero]at q0
  simp only[UM.cells,List.getElem?_cons_zero,List.getElem?_cons_succ]at q0 q1 q2 q3 q4 q5 q6 q7;have hj1:(j:Int)<u.mn:=by omega
  have hmm:=List.mem_of_getElem? hm;have HFM:=hzz (HF.out.mt m hmm);have HMR:=hzz (HU.out.each m hmm)
  have HSN:=hzz (show s.consts (u.methods.take (j+1))=(s.consts (u.methods.take j)).consts1 m.code by
   have hjl:=(gsz hm).1;rw[List.take_succ_eq_append_getElem hjl,(gsz hm).2,C1d])
  have hln:=B5x s (u.methods.take j) (fun m hm=>(HF.out.mt m (List.mem_of_mem_take hm)).code);rw[List.length_take,HML.out,Nat.min_eq_left hj]at hln;generalize s.consts (u.methods.take j)=sj at*
  have HCL:=hzz HMR.out.code.1;have hcl:m.code.length<=4096:=HFM.out.code;rw[HCL.out]at hcl;clear q hm hmm HRM hbV
  go_upto_region 4 with fail
  have hal:=A0f wr (.cells #[.bool m.st,.string ⟨m.nm.toArray⟩,.string ⟨m.ds.toArray⟩,.int .i64 m.sk,.int .i64 m.lo,.slice m.ca m.cn m.cc,.slice m.ta m.tn m.tc,.slice m.ma m.mn m.mc] A1d)
  have HM1:=hzz (show(wr.alloc (.cells #[.bool m.st,.string ⟨m.nm.toArray⟩,.string ⟨m.ds.toArray⟩,.int .i64 m.sk,.int .i64 m.lo,.slice m.ca m.cn m.cc,.slice m.ta m.tn m.tc,.slice m.ma m.mn m.mc] A1d)).heap[wr.heap.size]? =some (.cells m.cells.toArray A1d (0,0))from heap_alloc_last wr _)
  have HS2:=hzz (HS.out.below hal);have HK2:=hzz (HK.out.trans (A0u.of hal));clear hal q0 q1 q2 q3 q4 q5 q6 q7 hbq hbl HS HK;generalize wr.alloc _=W2 at*;generalize wr.heap.size=gm at*
  have m5:W2.cell? ⟨gm,5,none⟩=some (.slice m.ca m.cn m.cc):=A0a HM1.out 5 rfl
  go_wp2_with fail
  go_loopg [18] m.cn (fun gn i wr=>∃k:Nat,k<=m.cn/\gn=m.cn-k/\i= .int .i64 k/\Hid (LoS wr B g (sj.consts1 (m.code.take k)))/\Hid (A0u B w wr))
  case atStart=>exact⟨0,by omega,by omega,by go_num,HS2,HK2⟩
  clear HS2 HK2 HM1 m5;obtain⟨k,hk,rfl,rfl,HS,HK⟩:=hrel;by_cases hlk:k<m.cn
  ·have hbV:=HK.out.belowO HWB.out nlz h0B;have HRC:=hzz ((HMR.out.below hbV).code);obtain⟨b,off2,x,hbq,hbl,hx,q⟩:=HRC.out.getC k hlk;have q0:=q 0 (by omega);have q1:=q 1 (by omega)
   have q2:=q 2 (by omega);have q3:=q 3 (by omega);have q4:=q 4 (by omega);have q5:=q 5 (by omega);have q6:=q 6 (by omega);rw[Nat.add_zero]at q0
   simp only[IN.cells,List.getElem?_cons_zero,List.getElem?_cons_succ]at q0 q1 q2 q3 q4 q5 q6;have hk1:(k:Int)<m.cn:=by omega
   have HFX:=hzz (HFM.out.ins x (List.mem_of_getElem? hx))
   have HSM:=hzz (show sj.consts1 (m.code.take (k+1))=if x.op=18 then((sj.consts1 (m.code.take k)).con x).1 else sj.consts1 (m.code.take k) by
    have hjl:=(gsz hx).1;rw[List.take_succ_eq_append_getElem hjl,(gsz hx).2,C0i])
   have hlm:=B4f sj (m.code.take k);rw[List.length_take,HCL.out,Nat.min_eq_left hk]at hlm;generalize sj.consts1 (m.code.take k)=sk at*;obtain⟨op,nn,mm,cl,nm,ds,tx⟩:=x
   dsimp only at q0 q1 q2 q3 q4 q5 q6 HSM;clear q hx HRC hbV
   go_upto_region 7 with fail
   have hal:=A0f wr (.cells #[.int .u8 (op:Nat),.int .i64 nn,.int .i64 mm,.string ⟨cl.toArray⟩,.string ⟨nm.toArray⟩,.string ⟨ds.toArray⟩,.string ⟨tx.toArray⟩] A2e)
   have HXB:=hzz (show A3j wr.heap.size ⟨op,nn,mm,cl,nm,ds,tx⟩ (wr.alloc (.cells #[.int .u8 (op:Nat),.int .i64 nn,.int .i64 mm,.string ⟨cl.toArray⟩,.string ⟨nm.toArray⟩,.string ⟨ds.toArray⟩,.string ⟨tx.toArray⟩] A2e))from heap_alloc_last wr _)
   have HS3:=hzz (HS.out.below hal);have HK3:=hzz (HK.out.trans (A0u.of hal));clear hal q0 q1 q2 q3 q4 q5 q6 hbq hbl HS HK;generalize wr.alloc _=W3 at*;generalize wr.heap.size=gx at*
   obtain⟨j0,j1,j2,j3,j4,j5,j6,-,-,-,-,-,-⟩:=HXB.out.box;dsimp only at j0 j1 j2 j3 j4 j5 j6;by_cases o18:op=18
   ·have e18:((op:Int)==18)=true:=by rw[o18];rfl
    rw[if_pos o18]at HSM;have HCO:=hzz (B4e W3 B g sk ⟨op,nn,mm,cl,nm,ds,tx⟩ HS3.out HFX.out (by omega) (HK3.out.bnd hB));dsimp only[IN.cells]at HCO;clear o18
    go_wp2_with fail
    refine HCO.out.mono ?_;rintro e V4 ⟨rfl,hs4,hk4⟩;have HS4:=hzz hs4;have HK4:=hzz (HK3.out.trans hk4);clear hs4 hk4 HCO HS3 HK3 HXB j0 j1 j2 j3 j4 j5 j6
    go_wp2_with fail
    go_roundg (m.cn-(k+1))
    case measure=>omega
    exact⟨k+1,by omega,rfl,by go_num,hzz (by rw[HSM.out];exact HS4.out),HK4⟩
   have e18:((op:Int)==18)=false:=by rw[beq_eq_false_iff_ne];omega
   rw[if_neg o18]at HSM;clear o18
   go_wp2_with fail
   go_roundg (m.cn-(k+1))
   case measure=>omega
   exact⟨k+1,by omega,rfl,by go_num,hzz (by rw[HSM.out];exact HS3.out),HK3⟩
  have hkt:k=m.cn:=by omega
  subst hkt;have hfull:m.code.take m.cn=m.code:=List.take_of_length_le (by rw[HCL.out];exact Nat.le_refl _);rw[hfull]at HS;clear hfull hlk hk
  go_wp2_with fail
  go_roundg (u.mn-(j+1))
  case measure=>omega
  exact⟨j+1,by omega,rfl,by go_num,hzz (by rw[HSN.out];exact HS.out),HK⟩
 have hkt:j=u.mn:=by omega
 subst hkt;have hfull:u.methods.take u.mn=u.methods:=List.take_of_length_le (by rw[HML.out];exact Nat.le_refl _);rw[hfull]at HS;clear hfull hlt hj
 go_wp2_with fail
 go_end0;exact⟨rfl,HS.out,HK.out⟩
structure LW.Good(s:LW):Prop where
 sz:s.e=0->s.l.length<=1024
 tx:∀c∈s.l,c.s.length<=65536
theorem C1h{er k:Int}{ok:Bool}(h:A2a er ok k=0):er=0:=by
 unfold A2a at h;split at h
 ·next h1=>exact h1.2
 exact h
theorem LW.Good.need{s:LW}(h:s.Good)(ok:Bool)(k:Int):(s.need ok k).Good:=⟨fun he=>h.sz (C1h he),h.tx⟩
theorem LW.Good.put{s:LW}(h:s.Good)(c:KV)(hc:c.s.length<=65536):(s.put c).1.Good:=by
 unfold LW.put;split
 ·exact h
 refine⟨fun he=> ?_,fun k hk=> ?_⟩
 ·have he':A2a s.e (decide ((A2t s.l c).length<=1024)) 9=0:=he;unfold A2a at he';split at he'
  ·exact absurd he' (by decide)
  next h1=>
  show(A2t s.l c).length<=1024
  rcases Decidable.em ((A2t s.l c).length<=1024)with h2|h2
  ·exact h2
  exact absurd ⟨decide_eq_false h2,he'⟩ h1
 have hk':k∈A2t s.l c:=hk;unfold A2t at hk'
 rcases List.mem_append.1 hk' with h1|h1
 ·rcases List.mem_append.1 h1 with h2|h2
  ·exact h.tx k h2
  rw[List.mem_singleton.1 h2];exact hc
 split at h1
 ·rw[List.mem_singleton.1 h1];decide
 cases h1
theorem LW.Good.text{s:LW}(h:s.Good)(t:List UInt8)(ht:t.length<=65536):(s.text t).1.Good:=h.put _ ht
theorem LW.Good.cls{s:LW}(h:s.Good)(t:List UInt8)(arr:Bool)(ht:t.length<=65536):(s.cls t arr).1.Good:=((h.need _ _).text t ht).put _ (by simp)
theorem LW.Good.member{s:LW}(h:s.Good)(x:IN)(tag:Int)(p:List UInt8->Bool)(hx:B2w x):(s.member x tag p).1.Good:=by
 unfold LW.member;dsimp only;exact(((((h.need _ _).cls _ _ hx.cl).text _ hx.nm).text _ hx.ds).put _ (by simp)).put _ (by simp)
theorem LW.Good.con{s:LW}(h:s.Good)(x:IN)(hx:B2w x):(s.con x).1.Good:=by
 unfold LW.con;split
 ·exact(h.need _ _).put _ (by simp)
 split
 ·exact(h.text _ hx.tx).put _ (by simp)
 split
 ·exact h.put _ (by simp)
 exact h.need _ _
theorem LW.Good.wide{s:LW}(h:s.Good)(x:IN)(hx:B2w x):(s.wide x).1.Good:=by
 unfold LW.wide;split
 ·exact(h.need _ _).member _ _ _ hx
 split
 ·exact(h.need _ _).member _ _ _ hx
 exact(h.need _ _).cls _ _ hx.cl
theorem LW.Good.raw{s:LW}(h:s.Good)(p:Nat)(x:IN)(hx:B2w x):(s.raw p x).1.Good:=by
 unfold LW.raw;split
 ·exact((h.need _ _).con x hx).need _ _
 split
 ·exact h.wide x hx
 split
 ·exact h.need _ _
 exact(h.need _ _).need _ _
theorem LW.Good.raws{s:LW}(h:s.Good)(p:Nat)(l:List IN)(hl:∀x∈l,B2w x):(s.raws p l).1.Good:=by
 induction l generalizing s p with
 |nil=>exact h
 |cons x l ih=>
  rw[LW.raws];exact ih (h.raw p x (hl x List.mem_cons_self)) _ (fun y hy=>hl y (List.mem_cons_of_mem _ hy))
theorem LW.Good.goes{s:LW}(h:s.Good)(l k:List IN):(s.goes l k).Good:=by
 induction k generalizing s with
 |nil=>exact h
 |cons x k ih=>
  rw[LW.goes];split
  ·exact ih (h.need _ _)
  exact ih h
theorem LW.Good.code{s:LW}(h:s.Good)(l:List IN)(hl:∀x∈l,B2w x):(s.code l).1.Good:=((h.raws 0 l hl).goes l l).need _ _
theorem LW.Good.slot{s:LW}(h:s.Good)(t:List UInt8)(ht:t.length<=65536):(s.slot t).1.Good:=by
 unfold LW.slot;split
 ·exact h
 split
 ·exact h
 split
 ·exact h
 split
 ·exact h
 split
 ·exact h.cls _ _ (Nat.le_trans (C3j t) ht)
 exact(h.need _ _).cls _ _ ht
theorem LW.Good.slots{s:LW}(h:s.Good)(l:List (List UInt8))(hl:∀t∈l,t.length<=65536):(s.slots l).1.Good:=by
 induction l generalizing s with
 |nil=>exact h
 |cons x l ih=>
  rw[LW.slots];exact ih (h.slot x (hl x List.mem_cons_self)) (fun y hy=>hl y (List.mem_cons_of_mem _ hy))
theorem LW.Good.place{s:LW}(h:s.Good)(l:List IN)(n most:Int):(s.place l n most).1.Good:=by
 unfold LW.place;split
 ·exact h.need _ _
 exact h
theorem LW.Good.trap{s:LW}(h:s.Good)(l:List IN)(t:UT)(ht:t.cl.length<=65536):(s.trap l t).1.Good:=by
 unfold LW.trap;dsimp only;have h3:=((h.place l t.fr (l.length-1)).place l t.tt l.length).place l t.pl (l.length-1);split
 ·exact h3
 exact h3.cls _ _ ht
theorem LW.Good.traps{s:LW}(h:s.Good)(c:List IN)(l:List UT)(hl:∀t∈l,t.cl.length<=65536):(s.traps c l).1.Good:=by
 induction l generalizing s with
 |nil=>exact h
 |cons x l ih=>
  rw[LW.traps];exact ih (h.trap c x (hl x List.mem_cons_self)) (fun y hy=>hl y (List.mem_cons_of_mem _ hy))
theorem LW.Good.map{s:LW}(h:s.Good)(l:List IN)(t:UP)(ht:t.Fit):(s.map l t).1.Good:=((h.place l t.pl (l.length-1)).slots _ ht.lt).slots _ ht.st
theorem LW.Good.maps{s:LW}(h:s.Good)(c:List IN)(l:List UP)(hl:∀t∈l,t.Fit):(s.maps c l).1.Good:=by
 induction l generalizing s with
 |nil=>exact h
 |cons x l ih=>
  rw[LW.maps];exact ih (h.map c x (hl x List.mem_cons_self)) (fun y hy=>hl y (List.mem_cons_of_mem _ hy))
theorem LW.Good.method{s:LW}(h:s.Good)(m:UM)(hm:m.Fit):(s.method m).1.Good:=by
 unfold LW.method;dsimp only;have h1:=(((h.need (A5e m.nm&&A3k m.ds) 8).text _ hm.nm).text _ hm.ds).text A6z (by decide);split
 ·exact((h1.code _ hm.ins).traps _ _ hm.tr).maps _ _ hm.mp
 exact(((h1.text B4t (by decide)).code _ hm.ins).traps _ _ hm.tr).maps _ _ hm.mp
theorem LW.Good.methods{s:LW}(h:s.Good)(l:List UM)(hl:∀t∈l,t.Fit):(s.methods l).1.Good:=by
 induction l generalizing s with
 |nil=>exact h
 |cons x l ih=>
  rw[LW.methods];exact ih (h.method x (hl x List.mem_cons_self)) (fun y hy=>hl y (List.mem_cons_of_mem _ hy))
theorem LW.Good.field{s:LW}(h:s.Good)(f:UF)(hf:f.nm.length<=65536/\f.ds.length<=65536):(s.field f).1.Good:=((h.need _ _).text _ hf.1).text _ hf.2
theorem LW.Good.fields{s:LW}(h:s.Good)(l:List UF)(hl:∀f∈l,f.nm.length<=65536/\f.ds.length<=65536):(s.fields l).1.Good:=by
 induction l generalizing s with
 |nil=>exact h
 |cons x l ih=>
  rw[LW.fields];exact ih (h.field x (hl x List.mem_cons_self)) (fun y hy=>hl y (List.mem_cons_of_mem _ hy))
theorem LW.Good.consts1{s:LW}(h:s.Good)(l:List IN)(hl:∀x∈l,B2w x):(s.consts1 l).Good:=by
 induction l generalizing s with
 |nil=>exact h
 |cons x l ih=>
  rw[LW.consts1];split
  ·exact ih (h.con x (hl x List.mem_cons_self)) (fun y hy=>hl y (List.mem_cons_of_mem _ hy))
  exact ih h (fun y hy=>hl y (List.mem_cons_of_mem _ hy))
theorem LW.Good.consts{s:LW}(h:s.Good)(l:List UM)(hl:∀m∈l,m.Fit):(s.consts l).Good:=by
 induction l generalizing s with
 |nil=>exact h
 |cons x l ih=>
  rw[LW.consts];exact ih (h.consts1 x.code (hl x List.mem_cons_self).ins) (fun y hy=>hl y (List.mem_cons_of_mem _ hy))
theorem C3z(u:UU)(h:u.Fit):(A9x u).1.Good:=by
 unfold A9x;dsimp only;have h0:(⟨[kz],0⟩:LW).Good:=⟨fun _=>by simp,fun c hc=>by rw[List.mem_singleton.1 hc];decide⟩;have h1:=(h0.consts u.methods h.mt).cls u.nm false h.nm;split
 ·exact(h1.fields _ h.fd).methods _ h.mt
 exact((h1.cls u.su false h.su).fields _ h.fd).methods _ h.mt
theorem C6s(s:LW)(m:UM)(hm:m.Fit):(s.method m).1.l.length<=s.l.length+10000000:=by
 unfold LW.method;dsimp only;have h0:(s.need (A5e m.nm&&A3k m.ds) 8).l=s.l:=rfl;have h1:=A1x (s.need (A5e m.nm&&A3k m.ds) 8) m.nm;rw[h0]at h1
 have h2:=A1x ((s.need (A5e m.nm&&A3k m.ds) 8).text m.nm).1 m.ds;have h3:=A1x (((s.need (A5e m.nm&&A3k m.ds) 8).text m.nm).1.text m.ds).1 A6z
 generalize((((s.need (A5e m.nm&&A3k m.ds) 8).text m.nm).1.text m.ds).1.text A6z).1=c at*
 have hc:∀s5:LW,s5.l.length<=c.l.length+2->((((s5.code m.code).1.traps m.code m.traps).1).maps m.code m.maps).1.l.length<=s.l.length+10000000:=fun s5 h5=>by
  have h6:=C4m s5 m.code;have h7:=B3z (s5.code m.code).1 m.code m.traps;have h8:=C4r ((s5.code m.code).1.traps m.code m.traps).1 m.code m.maps hm.mp;have a1:=hm.code;have a2:=hm.traps
  have a3:=hm.maps;omega
 split
 ·exact hc _ (by omega)
 exact hc _ (A1x c B4t)
theorem C0v(s:LW)(l:List UM)(hl:∀m∈l,m.Fit):(s.methods l).1.l.length<=s.l.length+10000000*l.length:=by
 induction l generalizing s with
 |nil=>exact Nat.le_refl _
 |cons x l ih=>
  rw[LW.methods];have h1:=C6s s x (hl x List.mem_cons_self);have h2:=ih (s.method x).1 (fun y hy=>hl y (List.mem_cons_of_mem _ hy));simp only[List.length_cons];omega
theorem C8h(s:LW)(f:UF):(s.field f).1.l.length<=s.l.length+4:=by
 unfold LW.field;dsimp only;have h0:(s.need (A5e f.nm&&typeB f.ds) 8).l=s.l:=rfl;have h1:=A1x (s.need (A5e f.nm&&typeB f.ds) 8) f.nm;rw[h0]at h1
 have h2:=A1x ((s.need (A5e f.nm&&typeB f.ds) 8).text f.nm).1 f.ds;omega
theorem B5g(s:LW)(l:List UF):(s.fields l).1.l.length<=s.l.length+4*l.length:=by
 induction l generalizing s with
 |nil=>exact Nat.le_refl _
 |cons x l ih=>
  rw[LW.fields];have h1:=C8h s x;have h2:=ih (s.field x).1;simp only[List.length_cons];omega
theorem C2e(s:LW)(l:List UF)(t:UF):s.fields (l++[t])=((((s.fields l).1).field t).1,(s.fields l).2++[(((s.fields l).1).field t).2]):=by
 induction l generalizing s with
 |nil=>rfl
 |cons x l ih=>
  rw[List.cons_append,LW.fields,LW.fields,ih];rfl
theorem B7z(s:LW)(l:List UM)(t:UM):s.methods (l++[t])=((((s.methods l).1).method t).1,(s.methods l).2++[(((s.methods l).1).method t).2]):=by
 induction l generalizing s with
 |nil=>rfl
 |cons x l ih=>
  rw[List.cons_append,LW.methods,LW.methods,ih];rfl
theorem B5j(s:LW)(l:List UF):(s.fields l).2.length=l.length:=by
 induction l generalizing s with
 |nil=>rfl
 |cons x l ih=>rw[LW.fields,List.length_cons,List.length_cons,ih]
theorem B3y(s:LW)(l:List UM):(s.methods l).2.length=l.length:=by
 induction l generalizing s with
 |nil=>rfl
 |cons x l ih=>rw[LW.methods,List.length_cons,List.length_cons,ih]
abbrev A3s:=26
abbrev D4r:=75
abbrev UnT:=32
def KF.lp(f:KF):KF:=⟨none,0,0,f.pool,f.th,f.su,none,0,0,f.fields,none,0,0,f.methods.map KM.lp⟩
structure KF.Ow(x:KF)(w:World)(B:Nat):Prop where
 fields:w.ownsRow B D4r 3 (.slice x.fa x.fn x.fc) x.fn (x.fields.flatMap KD.cells)
 methods:w.ownsRow B FMT 8 (.slice x.ma x.mn x.mc) x.mn (x.methods.flatMap KM.cells)
 each:∀m∈x.methods,m.Ow w B
theorem KF.Ow.keepL{x:KF}{B B':Nat}{w w':World}(h:x.Ow w B')(k:A0u B w w'):x.Ow w' B':=⟨A0u.own h.fields k (by decide) (by decide),A0u.own h.methods k (by decide) (by decide),fun m hm=>(h.each m hm).keepL k⟩
theorem KF.Ow.keptT{x:KF}{B':Nat}{w w':World}{e:TypeId}(h:x.Ow w B')(k:A2p e w w')(h0:D4r≠e)(h9:FMT≠e)(h1:5≠e)(h2:TrT≠e)(h3:MpT≠e)(h4:SlT≠e):x.Ow w' B':=⟨A0k h.fields k h0,A0k h.methods k h9,fun m hm=>(h.each m hm).keptT k h1 h2 h3 h4⟩
theorem KF.Ow.fn'{x:KF}{V:World}{B:Nat}(h:x.Ow V B):x.fields.length=x.fn:=by
 have h1:=h.fields.1;rw[A4y KD.cells_length]at h1;omega
theorem KF.Ow.mn'{x:KF}{V:World}{B:Nat}(h:x.Ow V B):x.methods.length=x.mn:=by
 have h1:=h.methods.1;rw[A4y KM.cells_length]at h1;omega
theorem KF.Ow.fields1{x:KF}{w w':World}{B:Nat}(h:x.Ow w B)(k:A2p D4r w w'){a:Option Addr}{n c:Nat}{t:KD}(ho:w'.ownsRow B D4r 3 (.slice a n c) n ((x.fields++[t]).flatMap KD.cells)):KF.Ow {x with fa:=a,fn:=n,fc:=c,fields:=x.fields++[t]} w' B:=
 ⟨ho,A0k h.methods k (by decide),fun m hm=>(h.each m hm).keptT k (by decide) (by decide) (by decide) (by decide)⟩
theorem KF.Ow.methods1{x:KF}{w w':World}{B:Nat}(h:x.Ow w B)(k:A2p FMT w w'){a:Option Addr}{n c:Nat}{t:KM}(ht:t.Ow w' B)(ho:w'.ownsRow B FMT 8 (.slice a n c) n ((x.methods++[t]).flatMap KM.cells)):KF.Ow {x with ma:=a,mn:=n,mc:=c,methods:=x.methods++[t]} w' B:=
 ⟨A0k h.fields k (by decide),ho,fun m hm=>by
  rcases List.mem_append.1 hm with hm|hm
  ·exact(h.each m hm).keptT k (by decide) (by decide) (by decide) (by decide)
  rw[List.mem_singleton.1 hm];exact ht⟩
structure FlH(w V:World)(g:Nat)(u:UU)(s:LW):Prop where
 hs:LoS V w.heap.size g s
 hk:A0u w.heap.size w V
 u:V.heap[w.heap.size]? =some (.cells u.cells.toArray UnT (0,0))
 z:V.heap[w.heap.size+1]? =some (.cells #[.slice none 0 0,.int .i64 0,.int .i64 0,.slice none 0 0,.slice none 0 0] A3s (0,0))
structure FlJ(w V:World)(g go:Nat)(u:UU)(x:KF)(s:LW):Prop where
 h:FlH w V g u s
 o:V.heap[go]? =some (.cells x.cells.toArray A3s (0,0))
 w:x.Ow V w.heap.size
theorem FlH.call{w V V':World}{g:Nat}{u:UU}{s s':LW}(h:FlH w V g u s)(hs:LoS V' w.heap.size g s')(hk:A0u w.heap.size V V'):FlH w V' g u s':=
 ⟨hs,h.hk.trans hk,hk.row h.u (by decide) (by decide),hk.row h.z (by decide) (by decide)⟩
theorem FlJ.call{w V V':World}{g go:Nat}{u:UU}{x:KF}{s s':LW}(h:FlJ w V g go u x s)(hs:LoS V' w.heap.size g s')(hk:A0u w.heap.size V V'):FlJ w V' g go u x s':=
 ⟨h.h.call hs hk,hk.row h.o (by decide) (by decide),h.w.keepL hk⟩
theorem FlH.below{w V V':World}{g:Nat}{u:UU}{s:LW}(h:FlH w V g u s)(hb:Below V.heap.size V V'):FlH w V' g u s:=h.call (h.hs.below hb) (A0u.of hb)
theorem FlJ.below{w V V':World}{g go:Nat}{u:UU}{x:KF}{s:LW}(h:FlJ w V g go u x s)(hb:Below V.heap.size V V'):FlJ w V' g go u x s:=h.call (h.h.hs.below hb) (A0u.of hb)
theorem FlH.put{w V:World}{g go:Nat}{u:UU}{x x':KF}{s:LW}(h:FlH w V g u s)(ho:V.heap[go]? =some (.cells x.cells.toArray A3s (0,0)))(hw:w.heap.size+1<go)(o:Nat)(v:Value)(he:x.cells.toArray.setIfInBounds o v=x'.cells.toArray)(hx:x'.Ow V w.heap.size):
  FlJ w (V.setCell ⟨go,o,none⟩ v) g go u x' s:=by
 have hkt:=A1p ho o v
 exact⟨⟨h.hs.setO ho (by decide) (by decide) (by omega) o v,h.hk.thenB (brz.setCell (show w.heap.size<=go by omega) v),hkt.2 _ _ _ _ h.u (by decide),A1r h.z (by omega) o v⟩,
  by rw[<-he];exact A1k ho o v,hx.keptT hkt (by decide) (by decide) (by decide) (by decide) (by decide) (by decide)⟩
theorem FlJ.app{w V w9:World}{g go:Nat}{u:UU}{x:KF}{s:LW}{ob:Obj}{e:TypeId}{size:Nat}{v:Value}{n:Nat}{xs:List Value}(h:FlJ w V g go u x s)(hw0:0<w.heap.size)
  (ho:V.ownsRow w.heap.size e size v n xs) (hg:(V.alloc ob).grownBy w9 v.ownBlock) (hb:Below w.heap.size V w9) (h1:e≠A6e) (h2:e≠B3f) (h3:UnT≠e) (h4:A3s≠e):
  FlH w w9 g u s/\w9.heap[go]? =some (.cells x.cells.toArray A3s (0,0)):=by
 have hkt:=A2p.app ho hg;exact⟨⟨h.h.hs.app ho hg h1 h2 hw0,h.h.hk.thenB hb,hkt.2 _ _ _ _ h.h.u h3,hkt.2 _ _ _ _ h.h.z h4⟩,hkt.2 _ _ _ _ h.o h4⟩
theorem KF.lp_fields1{x:KF}{a b:Int}{P:List KV}{T:List KD}{M:List KM}(h:x.lp=⟨none,0,0,P,a,b,none,0,0,T,none,0,0,M⟩)(ta:Option Addr)(tn tc:Nat)(k:KD):
  KF.lp {x with fa:=ta,fn:=tn,fc:=tc,fields:=x.fields++[k]}=⟨none,0,0,P,a,b,none,0,0,T++[k],none,0,0,M⟩:=by
 simp only[KF.lp,KF.mk.injEq]at h⊢;obtain⟨-,-,-,e1,e2,e3,-,-,-,e4,-,-,-,e5⟩:=h;exact⟨trivial,trivial,trivial,e1,e2,e3,trivial,trivial,trivial,by rw[e4],trivial,trivial,trivial,e5⟩
theorem KF.lp_methods1{x:KF}{a b:Int}{P:List KV}{T:List KD}{M:List KM}(h:x.lp=⟨none,0,0,P,a,b,none,0,0,T,none,0,0,M⟩)(ta:Option Addr)(tn tc:Nat)(k:KM):
  KF.lp {x with ma:=ta,mn:=tn,mc:=tc,methods:=x.methods++[k]}=⟨none,0,0,P,a,b,none,0,0,T,none,0,0,M++[k.lp]⟩:=by
 simp only[KF.lp,KF.mk.injEq]at h⊢;obtain⟨-,-,-,e1,e2,e3,-,-,-,e4,-,-,-,e5⟩:=h
 exact⟨trivial,trivial,trivial,e1,e2,e3,trivial,trivial,trivial,e4,trivial,trivial,trivial,by rw[List.map_append,e5];rfl⟩
theorem E0m:StE 23 D4r (.agg #[.int .i64 0,.int .i64 0,.int .i64 0]) 3 24:=⟨by kernel_rfl,by kernel_rfl,rfl⟩
theorem E0t:StE 24 FMT (.agg #[.int .i64 0,.int .i64 0,.int .i64 0,.int .i64 0,.int .i64 0,.slice none 0 0,.slice none 0 0,.slice none 0 0]) 8 112:=⟨by kernel_rfl,by kernel_rfl,rfl⟩
theorem A6x:(Tryz.prog.info? A3s).map (·.size)=some 5:=by kernel_rfl
theorem C1y(x:KF):x.cells.toArray.all (·.oneCell')=true:=by simp[KF.cells,Value.oneCell']
theorem C9w(w:World):B2r (w.alloc (.map #[] 0)) w.heap.size [kz]:=by
 refine⟨_,(World.ownsMap_made w Tryz.prog A6e _).mono (by simp),fun c hc ht z=> ?_⟩
 have:B2g [kz] c=none:=by
  unfold B2g;simp only[List.findIdx?_cons,List.findIdx?_nil,Option.map_none];rw[if_neg (fun h=>ht (by rw[<-A8h.1 h];rfl))]
 rw[this];rfl
def BxF(gx go:Nat)(f:UF)(v:Value)(z:World):Prop:=z.heap[gx]? =some (.cells f.cells.toArray 52 (0,0))/\z.cell? ⟨go,3,none⟩=some v
def BxN(gx go:Nat)(m:UM)(v:Value)(z:World):Prop:=z.heap[gx]? =some (.cells m.cells.toArray A1d (0,0))/\z.cell? ⟨go,4,none⟩=some v
def QEl(g:Nat)(e:Int)(w:World):Prop:=w.cell? ⟨g,2,none⟩=some (.int .i64 e)
theorem B6k(x:KF):A2r x.lp=A2r x:=by
 have hm:∀(L:List KV) (m:KM),A3z L m.lp=A3z L m:=fun L m=>by
  have hp:∀(L:List KV) (p:KP),A8i L p.lp=A8i L p:=fun L p=>rfl
  unfold A3z;show(A4f L m.fl m.nm m.ds&&B0n m&&A9d m.lp&&m.traps.all (A7b L)&&(m.maps.map KP.lp).all (A8i L)&&A7k L m.lp)=_
  have h1:A9d m.lp=A9d m:=by unfold A9d KM.lp;simp
  have h2:A7k L m.lp=A7k L m:=by unfold A7k KM.lp;simp
  have h3:(m.maps.map KP.lp).all (A8i L)=m.maps.all (A8i L):=by
   rw[List.all_map];rfl
  rw[h1,h2,h3]
 unfold A2r
 show(A6f x.pool&&clsOk x.pool x.th&&(decide (x.su=0)||clsOk x.pool x.su)&&decide (x.fields.length<=64/\(x.methods.map KM.lp).length<=64)&&x.fields.all (fun d=>A4f x.pool d.fl d.nm d.ds)&&(x.methods.map KM.lp).all (A3z x.pool))=_
 rw[List.length_map,List.all_map];congr 1;exact congrArg _ (funext fun m=>hm x.pool m)
theorem C0t(l:List RW):(A1t l).2.length<=4096:=by
 unfold A1t;split
 ·simp
 split
 ·simp
 split
 ·simp
 next h=>show(A6s l).length<=_;omega
theorem C2s{s:LW}{l:List UM}{y:KM}(h:y∈(s.methods l).2):∃s' m,m∈l/\y=(LW.method s' m).2:=by
 induction l generalizing s with
 |nil=>cases h
 |cons x l ih=>
  rw[LW.methods]at h
  rcases List.mem_cons.1 h with h|h
  ·exact⟨s,x,List.mem_cons_self,h⟩
  obtain⟨s',m,hm,he⟩:=ih h;exact⟨s',m,List.mem_cons_of_mem _ hm,he⟩
theorem C5y{s:LW}{l:List UF}{y:KD}(h:y∈(s.fields l).2):∃s' m,m∈l/\y=(LW.field s' m).2:=by
 induction l generalizing s with
 |nil=>cases h
 |cons x l ih=>
  rw[LW.fields]at h
  rcases List.mem_cons.1 h with h|h
  ·exact⟨s,x,List.mem_cons_self,h⟩
  obtain⟨s',m,hm,he⟩:=ih h;exact⟨s',m,List.mem_cons_of_mem _ hm,he⟩
theorem D3c{s:LW}{c:List IN}{l:List UP}{y:KP}(h:y∈(s.maps c l).2):∃s' m,m∈l/\y=(LW.map s' c m).2:=by
 induction l generalizing s with
 |nil=>cases h
 |cons x l ih=>
  rw[LW.maps]at h
  rcases List.mem_cons.1 h with h|h
  ·exact⟨s,x,List.mem_cons_self,h⟩
  obtain⟨s',m,hm,he⟩:=ih h;exact⟨s',m,List.mem_cons_of_mem _ hm,he⟩
theorem C4d(b:Bool):A9r (A1w b):=by cases b<;>exact⟨by decide,by decide⟩
theorem D6q(u:UU)(hf:u.Fit)(x:KF)(V:World)(hx:x.lp=(A9x u).2)(hr:x.Rd V)(he:(A9x u).1.e=0):x.Fit:=by
 have hg:=C3z u hf;have hpool:x.pool=(A9x u).1.l:=(show x.pool=x.lp.pool from rfl).trans (congrArg KF.pool hx)
 have hflds:x.fields=(A9x u).2.fields:=(show x.fields=x.lp.fields from rfl).trans (congrArg KF.fields hx);have hmths:x.methods.map KM.lp=(A9x u).2.methods:=congrArg KF.methods hx
 have hl:x.pool.length<=1024:=by rw[hpool];exact hg.sz he
 have h1:=hr.pool.1;have h2:=hr.fields.1;have h3:=hr.methods.1;have hfl:x.fields.length=u.fields.length:=by rw[hflds];unfold A9x;dsimp only;rw[B5j]
 have hml:x.methods.length=u.methods.length:=by
  have:=congrArg List.length hmths;rw[List.length_map]at this;rw[this];unfold A9x;dsimp only;rw[B3y]
 have a1:=hf.fields;have a2:=hf.methods;refine⟨by omega,fun i hi=> ?_,by omega,by omega,fun d hd=> ?_,fun m hm=> ?_⟩
 ·rw[A6t x.pool i (by omega)];have:=hg.tx x.pool[i] (by rw[<-hpool];exact List.getElem_mem _);exact this
 ·rw[hflds]at hd;have hd':d∈(LW.fields _ u.fields).2:=hd;obtain⟨s',m,_,e⟩:=C5y hd';rw[e];exact C4d m.st
 have hm':m.lp∈(A9x u).2.methods:=by rw[<-hmths];exact List.mem_map_of_mem hm
 have hm2:m.lp∈(LW.methods _ u.methods).2:=hm';obtain⟨s',m0,hm0,e⟩:=C2s hm2;have hmr:=hr.each m hm;have c1:=hmr.code.1;have c2:=hmr.traps.1;have c3:=hmr.maps.1;have hf0:=hf.mt m0 hm0
 have e1:m.fl=A1w m0.st:=congrArg KM.fl e
 have e2:m.code.length<=4096:=by
  have:m.code=(LW.method s' m0).2.code:=(show m.code=m.lp.code from rfl).trans (congrArg KM.code e);rw[this];exact C0t _
 have e3:m.traps.length=m0.traps.length:=by
  have:m.traps=(LW.method s' m0).2.traps:=(show m.traps=m.lp.traps from rfl).trans (congrArg KM.traps e);rw[this];exact C0d _ _ _
 have hmp:m.maps.map KP.lp=(LW.method s' m0).2.maps:=congrArg KM.maps e
 have e4:m.maps.length=m0.maps.length:=by
  have h9:=congrArg List.length hmp;rw[List.length_map]at h9;rw[h9];exact C3r _ _ _
 have b1:=hf0.traps;have b2:=hf0.maps;refine⟨by rw[e1];exact C4d _,by unfold maxLen;omega,by omega,by omega,fun p hp=> ?_⟩
 have h9:p.lp∈(LW.method s' m0).2.maps:=by rw[<-hmp];exact List.mem_map_of_mem hp
 have hp':p.lp∈(LW.maps _ m0.code m0.maps).2:=h9;obtain⟨s2,p0,hp0,e5⟩:=D3c hp';have hpr:=hmr.each p hp;have d1:=hpr.loc.1;have d2:=hpr.stk.1;have hq:=hf0.mp p0 hp0;have b3:=hq.loc
 have b4:=hq.stk
 have e6:p.loc.length=p0.loc.length:=by
  have:p.loc=(LW.map s2 m0.code p0).2.loc:=(show p.loc=p.lp.loc from rfl).trans (congrArg KP.loc e5);rw[this];exact B9d _ _
 have e7:p.stk.length=p0.stk.length:=by
  have:p.stk=(LW.map s2 m0.code p0).2.stk:=(show p.stk=p.lp.stk from rfl).trans (congrArg KP.stk e5);rw[this];exact B9d _ _
 exact⟨by omega,by omega⟩
theorem KF.Ow.rd{x:KF}{V:World}{B:Nat}(h:x.Ow V B)(hp:V.ownsRow B A6e 5 (.slice x.pa x.pn x.pc) x.pn (x.pool.flatMap KV.cells)):x.Rd V:=by
 obtain⟨a0,d0,q0,r0,_⟩:=Ss.ofOwn KV.cells_length (by decide) hp;obtain⟨a1,d1,q1,r1,_⟩:=Ss.ofOwn KD.cells_length (by decide) h.fields
 obtain⟨a2,d2,q2,r2,_⟩:=Ss.ofOwn KM.cells_length (by decide) h.methods
 cases q0
 cases q1
 cases q2
 exact⟨r0,r1,r2,fun m hm=>(h.each m hm).rd⟩
def C3q(u:UU)(w:World)(e:Ending)(w':World):Prop:=
 ∃x:KF,e= .returned (.tuple #[.agg x.cells.toArray,.int .i64 (C5q u)])/\(C5q u=0->x.lp=(A9x u).2/\x.Rd w'/\x.Fit)/\(C5q u≠0->x=⟨none,0,0,[],0,0,none,0,0,[],none,0,0,[]⟩)/\Below w.heap.size w w'
theorem B1z(w:World)(u:UU)(hu:u.Rd w)(hf:u.Fit)(hv:VW w):Calls Tryz.prog 14 #[.agg u.cells.toArray] w (C3q u w):=by
 have hw0:0<w.heap.size:=by
  obtain⟨m,hm⟩:=hv
  rcases Nat.eq_zero_or_pos w.heap.size with h1|h1
  ·exfalso;have:w.heap[0]? =none:=Array.getElem?_eq_none (by omega);simp[World.cell?,this]at hm
  exact h1
 have hb5:Below w.heap.size w (((((w.alloc (.cells #[.string ⟨u.nm.toArray⟩,.string ⟨u.su.toArray⟩,.slice u.fa u.fn u.fc,.slice u.ma u.mn u.mc] UnT)).alloc (.cells #[.slice none 0 0,.int .i64 0,.int .i64 0,.slice none 0 0,.slice none 0 0] A3s)).alloc (.cells #[.int .i64 0,.int .i64 0,.int .i64 0,.int .i64 0,.string ⟨#[]⟩] A6e)).alloc (.map #[] 0)).alloc (.cells #[.slice (some ⟨w.heap.size+1+1,0,none⟩) 1 1,.map (some (w.heap.size+1+1+1)),.int .i64 0] B3f)):=(((((Below.refl w.heap.size w).alloc nlz _).alloc (by simp) _).alloc (by simp;omega) _).alloc (by simp;omega) _).alloc (by simp;omega) _
 have s2:((w.alloc (.cells #[.string ⟨u.nm.toArray⟩,.string ⟨u.su.toArray⟩,.slice u.fa u.fn u.fc,.slice u.ma u.mn u.mc] UnT)).alloc (.cells #[.slice none 0 0,.int .i64 0,.int .i64 0,.slice none 0 0,.slice none 0 0] A3s)).heap.size=w.heap.size+1+1:=by simp
 have s3:(((w.alloc (.cells #[.string ⟨u.nm.toArray⟩,.string ⟨u.su.toArray⟩,.slice u.fa u.fn u.fc,.slice u.ma u.mn u.mc] UnT)).alloc (.cells #[.slice none 0 0,.int .i64 0,.int .i64 0,.slice none 0 0,.slice none 0 0] A3s)).alloc (.cells #[.int .i64 0,.int .i64 0,.int .i64 0,.int .i64 0,.string ⟨#[]⟩] A6e)).heap.size=w.heap.size+1+1+1:=by simp
 have s4:((((w.alloc (.cells #[.string ⟨u.nm.toArray⟩,.string ⟨u.su.toArray⟩,.slice u.fa u.fn u.fc,.slice u.ma u.mn u.mc] UnT)).alloc (.cells #[.slice none 0 0,.int .i64 0,.int .i64 0,.slice none 0 0,.slice none 0 0] A3s)).alloc (.cells #[.int .i64 0,.int .i64 0,.int .i64 0,.int .i64 0,.string ⟨#[]⟩] A6e)).alloc (.map #[] 0)).heap.size=w.heap.size+1+1+1+1:=by simp
 have hx3:(((((w.alloc (.cells #[.string ⟨u.nm.toArray⟩,.string ⟨u.su.toArray⟩,.slice u.fa u.fn u.fc,.slice u.ma u.mn u.mc] UnT)).alloc (.cells #[.slice none 0 0,.int .i64 0,.int .i64 0,.slice none 0 0,.slice none 0 0] A3s)).alloc (.cells #[.int .i64 0,.int .i64 0,.int .i64 0,.int .i64 0,.string ⟨#[]⟩] A6e)).alloc (.map #[] 0)).alloc (.cells #[.slice (some ⟨w.heap.size+1+1,0,none⟩) 1 1,.map (some (w.heap.size+1+1+1)),.int .i64 0] B3f)).heap[w.heap.size+1+1]? =some (.cells #[.int .i64 0,.int .i64 0,.int .i64 0,.int .i64 0,.string ⟨#[]⟩] A6e (0,0)):=by
  rw[Below.heap_alloc _ _ _ (by rw[s4];omega),Below.heap_alloc _ _ _ (by rw[s3];omega)]
  have h9:=heap_alloc_last ((w.alloc (.cells #[.string ⟨u.nm.toArray⟩,.string ⟨u.su.toArray⟩,.slice u.fa u.fn u.fc,.slice u.ma u.mn u.mc] UnT)).alloc (.cells #[.slice none 0 0,.int .i64 0,.int .i64 0,.slice none 0 0,.slice none 0 0] A3s)) (.cells #[.int .i64 0,.int .i64 0,.int .i64 0,.int .i64 0,.string ⟨#[]⟩] A6e)
  rw[s2]at h9;exact h9
 have hxl:(((((w.alloc (.cells #[.string ⟨u.nm.toArray⟩,.string ⟨u.su.toArray⟩,.slice u.fa u.fn u.fc,.slice u.ma u.mn u.mc] UnT)).alloc (.cells #[.slice none 0 0,.int .i64 0,.int .i64 0,.slice none 0 0,.slice none 0 0] A3s)).alloc (.cells #[.int .i64 0,.int .i64 0,.int .i64 0,.int .i64 0,.string ⟨#[]⟩] A6e)).alloc (.map #[] 0)).alloc (.cells #[.slice (some ⟨w.heap.size+1+1,0,none⟩) 1 1,.map (some (w.heap.size+1+1+1)),.int .i64 0] B3f)).heap[w.heap.size+1+1+1+1]? =some (.cells #[.slice (some ⟨w.heap.size+1+1,0,none⟩) 1 1,.map (some (w.heap.size+1+1+1)),.int .i64 0] B3f (0,0)):=by
  have h9:=heap_alloc_last ((((w.alloc (.cells #[.string ⟨u.nm.toArray⟩,.string ⟨u.su.toArray⟩,.slice u.fa u.fn u.fc,.slice u.ma u.mn u.mc] UnT)).alloc (.cells #[.slice none 0 0,.int .i64 0,.int .i64 0,.slice none 0 0,.slice none 0 0] A3s)).alloc (.cells #[.int .i64 0,.int .i64 0,.int .i64 0,.int .i64 0,.string ⟨#[]⟩] A6e)).alloc (.map #[] 0)) (.cells #[.slice (some ⟨w.heap.size+1+1,0,none⟩) 1 1,.map (some (w.heap.size+1+1+1)),.int .i64 0] B3f)
  rw[s4]at h9;exact h9
 have hmk:B2r (((((w.alloc (.cells #[.string ⟨u.nm.toArray⟩,.string ⟨u.su.toArray⟩,.slice u.fa u.fn u.fc,.slice u.ma u.mn u.mc] UnT)).alloc (.cells #[.slice none 0 0,.int .i64 0,.int .i64 0,.slice none 0 0,.slice none 0 0] A3s)).alloc (.cells #[.int .i64 0,.int .i64 0,.int .i64 0,.int .i64 0,.string ⟨#[]⟩] A6e)).alloc (.map #[] 0)).alloc (.cells #[.slice (some ⟨w.heap.size+1+1,0,none⟩) 1 1,.map (some (w.heap.size+1+1+1)),.int .i64 0] B3f)) (w.heap.size+1+1+1) [kz]:=by
  have h9:=C9w (((w.alloc (.cells #[.string ⟨u.nm.toArray⟩,.string ⟨u.su.toArray⟩,.slice u.fa u.fn u.fc,.slice u.ma u.mn u.mc] UnT)).alloc (.cells #[.slice none 0 0,.int .i64 0,.int .i64 0,.slice none 0 0,.slice none 0 0] A3s)).alloc (.cells #[.int .i64 0,.int .i64 0,.int .i64 0,.int .i64 0,.string ⟨#[]⟩] A6e))
  rw[s3]at h9;exact h9.below (A0f _ _)
 have HH0:=hzz (show FlH w (((((w.alloc (.cells #[.string ⟨u.nm.toArray⟩,.string ⟨u.su.toArray⟩,.slice u.fa u.fn u.fc,.slice u.ma u.mn u.mc] UnT)).alloc (.cells #[.slice none 0 0,.int .i64 0,.int .i64 0,.slice none 0 0,.slice none 0 0] A3s)).alloc (.cells #[.int .i64 0,.int .i64 0,.int .i64 0,.int .i64 0,.string ⟨#[]⟩] A6e)).alloc (.map #[] 0)).alloc (.cells #[.slice (some ⟨w.heap.size+1+1,0,none⟩) 1 1,.map (some (w.heap.size+1+1+1)),.int .i64 0] B3f)) (w.heap.size+1+1+1+1) u ⟨[kz],0⟩from⟨⟨some ⟨w.heap.size+1+1,0,none⟩,1,w.heap.size+1+1+1,⟨hxl,⟨rfl,.inr ⟨_,1,_,rfl,by omega,hx3,Nat.le_refl _,by decide,rfl,rfl⟩⟩,hmk,by omega,by omega,hw0,hv.below hb5⟩⟩,A0u.of hb5,by
  rw[Below.heap_alloc _ _ _ (by rw[s4];omega),Below.heap_alloc _ _ _ (by rw[s3];omega),Below.heap_alloc _ _ _ (by rw[s2];omega),Below.heap_alloc _ _ _ (by simp)];exact heap_alloc_last w _,by
  rw[Below.heap_alloc _ _ _ (by rw[s4];omega),Below.heap_alloc _ _ _ (by rw[s3];omega),Below.heap_alloc _ _ _ (by rw[s2];omega)]
  have h9:=heap_alloc_last (w.alloc (.cells #[.string ⟨u.nm.toArray⟩,.string ⟨u.su.toArray⟩,.slice u.fa u.fn u.fc,.slice u.ma u.mn u.mc] UnT)) (.cells #[.slice none 0 0,.int .i64 0,.int .i64 0,.slice none 0 0,.slice none 0 0] A3s)
  rw[show(w.alloc (.cells #[.string ⟨u.nm.toArray⟩,.string ⟨u.su.toArray⟩,.slice u.fa u.fn u.fc,.slice u.ma u.mn u.mc] UnT)).heap.size=w.heap.size+1 by simp]at h9;exact h9⟩)
 have HU:=hzz hu;have HF:=hzz hf;have HV:=hzz hv
 have HLO:=hzz (show A9x u=(let s:=(⟨[kz],0⟩:LW).consts u.methods;let t:=s.cls u.nm false;let p:=if u.su=[]then(t.1,0)else t.1.cls u.su false;let f:=p.1.fields u.fields;let m:=f.1.methods u.methods;(m.1,⟨none,0,0,m.1.l,(t.2:Nat),(p.2:Nat),none,0,0,f.2,none,0,0,m.2⟩))from rfl)
 have HGO:=hzz (C3z u hf)
 have HE:=hzz (show C5q u=if(A9x u).1.e=0 then(if A2r (A9x u).2 then 0 else 8)else(A9x u).1.e from rfl)
 clear hu hf hv hb5 s2 s3 s4 hx3 hxl hmk;change Calls Tryz.prog 14 #[.agg #[.string ⟨u.nm.toArray⟩,.string ⟨u.su.toArray⟩,.slice u.fa u.fn u.fc,.slice u.ma u.mn u.mc]] w (C3q u w)
 have hmm:= @run_makeMap Tryz.prog;go_enter Tryz.func14,Tryz.ntmps14
 go_upto_region 2 with fail
 clear hmm
 generalize(((((w.alloc (.cells #[.string ⟨u.nm.toArray⟩,.string ⟨u.su.toArray⟩,.slice u.fa u.fn u.fc,.slice u.ma u.mn u.mc] UnT)).alloc (.cells #[.slice none 0 0,.int .i64 0,.int .i64 0,.slice none 0 0,.slice none 0 0] A3s)).alloc (.cells #[.int .i64 0,.int .i64 0,.int .i64 0,.int .i64 0,.string ⟨#[]⟩] A6e)).alloc (.map #[] 0)).alloc (.cells #[.slice (some ⟨w.heap.size+1+1,0,none⟩) 1 1,.map (some (w.heap.size+1+1+1)),.int .i64 0] B3f))=W at*
 obtain⟨g,hg⟩:=exz (w.heap.size+1+1+1+1);rw[<-hg]at HH0⊢;have hgw:w.heap.size+1<g:=by omega
 clear hg;have HBW:=hzz (fun V s (h:FlH w V g u s)=>(h.hk.below (Below.refl _ w) nlz:Below w.heap.size w V))
 have HCN:=hzz (B8z W w w.heap.size g ⟨[kz],0⟩ u HH0.out.hs HU.out (HBW.out _ _ HH0.out) nlz HF.out (by simp) HH0.out.hk.size hw0)
 have hl1:=B5x ⟨[kz],0⟩ u.methods (fun m hm=>(HF.out.mt m hm).code);have hfm:=HF.out.methods;have hff:=HF.out.fields;rw[show([kz]:List KV).length=1 from rfl]at hl1
 generalize(⟨[kz],0⟩:LW).consts u.methods=s1 at*;dsimp only[UU.cells]at HCN
 obtain⟨u0,u1,u2,u3⟩:=(show W.cell? ⟨w.heap.size,0,none⟩=some (.string ⟨u.nm.toArray⟩)/\W.cell? ⟨w.heap.size,1,none⟩=some (.string ⟨u.su.toArray⟩)/\W.cell? ⟨w.heap.size,2,none⟩=some (.slice u.fa u.fn u.fc)/\W.cell? ⟨w.heap.size,3,none⟩=some (.slice u.ma u.mn u.mc)from⟨A0a HH0.out.u 0 rfl,A0a HH0.out.u 1 rfl,A0a HH0.out.u 2 rfl,A0a HH0.out.u 3 rfl⟩)
 go_wp2_with fail
 refine HCN.out.mono ?_;rintro e V1 ⟨rfl,hs,hk⟩;have HH1:=hzz (HH0.out.call hs hk);clear hs hk HH0 HCN u0 u1 u2 u3
 have HCL:=hzz (A3w V1 w.heap.size g s1 u.nm false HH1.out.hs HF.out.nm (by omega) HH1.out.hk.size);have hl2:=A7h s1 u.nm false;generalize s1.cls u.nm false=c2 at*;obtain⟨s2,th⟩:=c2
 dsimp only at HCL hl2 HLO;have u0:V1.cell? ⟨w.heap.size,0,none⟩=some (.string ⟨u.nm.toArray⟩):=A0a HH1.out.u 0 rfl
 go_wp2_with fail
 refine HCL.out.mono ?_;rintro e V2 ⟨rfl,hs,hk⟩;have HH2:=hzz (HH1.out.call hs hk);clear hs hk HH1 HCL u0
 go_upto_region 4 with fail
 have hal:=A0f V2 (.cells #[.slice none 0 0,.int .i64 (th:Nat),.int .i64 0,.slice none 0 0,.slice none 0 0] A3s)
 have HJ0:=hzz (show FlJ w (V2.alloc (.cells #[.slice none 0 0,.int .i64 (th:Nat),.int .i64 0,.slice none 0 0,.slice none 0 0] A3s)) g V2.heap.size u ⟨none,0,0,[],(th:Nat),0,none,0,0,[],none,0,0,[]⟩ s2 from⟨HH2.out.below hal,heap_alloc_last V2 _,⟨World.ownsRow_nil _ _ _ _,World.ownsRow_nil _ _ _ _,fun m hm=>by cases hm⟩⟩)
 have hgo:w.heap.size+1<V2.heap.size:=A0r HH2.out.z;have hgg:g<V2.heap.size:=HH2.out.hs.lt;clear hal HH2;generalize V2.alloc _=W3 at*;generalize V2.heap.size=go at*
 have u1:W3.cell? ⟨w.heap.size,1,none⟩=some (.string ⟨u.su.toArray⟩):=A0a HJ0.out.h.u 1 rfl;obtain⟨bs,hbs⟩:=exz (!u.su.isEmpty);have e1:u.su.isEmpty= !bs:=by rw[hbs,Bool.not_not]
 have e0:(u.su !=[])=bs:=by rw[hbs];cases u.su<;>rfl
 have HBS:=hzz hbs;clear hbs
 obtain⟨SP,hSP⟩:=exz (if u.su=[]then(s2,0)else s2.cls u.su false)
 rw[<-hSP]at HLO
 have hl3:SP.1.l.length<=s2.l.length+4:=by
  rw[hSP];split
  ·show s2.l.length<=_;omega
  exact A7h _ _ _
 have HSP:=hzz hSP;clear hSP
 go_upto_if 25 with fail
 go_cut [] (fun wx=>Hid (FlJ w wx g go u ⟨none,0,0,[],(th:Nat),(SP.2:Nat),none,0,0,[],none,0,0,[]⟩ SP.1))
 case first=>
  cases bs
  ·have hse:u.su=[]:=by
    have h:=HBS.out
    rcases hq:u.su with _|⟨a,l⟩
    ·rfl
    rw[hq]at h;cases h
   have HQ:=hzz (show SP=(s2,0) by rw[HSP.out,if_pos hse]);clear hse e0 e1
   go_wp2_with fail
   go_meet;exact hzz (by rw[HQ.out];exact HJ0.out)
  have hse:¬u.su=[]:=fun h=>by
   have h1:=HBS.out;rw[h]at h1
   cases h1
  have HQ0:=show SP=s2.cls u.su false by rw[HSP.out,if_neg hse]
  have HC:=hzz (A3w W3 w.heap.size g s2 u.su false HJ0.out.h.hs HF.out.su (by omega) HJ0.out.h.hk.size);generalize s2.cls u.su false=c3 at*;obtain⟨s3,su⟩:=c3;dsimp only at HC;have HQ:=hzz HQ0
  clear hse e0 e1 HQ0
  go_wp2_with fail
  refine HC.out.mono ?_;rintro e V3 ⟨rfl,hs,hk⟩;have HJ1:=hzz (HJ0.out.call hs hk);clear hs hk HJ0 HC;have fo:=A0n HJ1.out.o 2;have lo:=A0r HJ1.out.o;have co:=A0a HJ1.out.o 2 rfl
  dsimp only[KF.cells]at co
  go_wp2_with fail
  go_meet
  exact hzz (by
   rw[HQ.out];exact HJ1.out.h.put (x':=⟨none,0,0,[],(th:Nat),(su:Nat),none,0,0,[],none,0,0,[]⟩) HJ1.out.o hgo 2 _ rfl ⟨HJ1.out.w.fields,HJ1.out.w.methods,HJ1.out.w.each⟩)
 have HJ1:=hcut;clear hcut HJ0 u1 e0 e1 HBS HSP;obtain⟨s3,su⟩:=SP;dsimp only at HJ1 hl3 HLO;have u2:wc.cell? ⟨w.heap.size,2,none⟩=some (.slice u.fa u.fn u.fc):=A0a HJ1.out.h.u 2 rfl
 have HFL:=hzz HU.out.fields.1;rw[HFL.out]at hff
 go_wp2_with fail
 go_loopg [34] u.fn (fun gn i wr=>∃(j:Nat) (x:KF),j<=u.fn/\gn=u.fn-j/\i= .int .i64 j/\Hid (x.lp=⟨none,0,0,[],(th:Nat),(su:Nat),none,0,0,(s3.fields (u.fields.take j)).2,none,0,0,[]⟩)/\Hid (FlJ w wr g go u x (s3.fields (u.fields.take j)).1))
 case atStart=>exact⟨0,_,by omega,by omega,by go_num,hzz rfl,HJ1⟩
 clear HJ1 u2;obtain⟨j,x,hj,rfl,rfl,HX,HJ⟩:=hrel;by_cases hlt:j<u.fn
 ·have HRF:=hzz (HU.out.fields.below (HBW.out _ _ HJ.out.h));obtain⟨bq,off,f,hbq,hbl,hfx,q⟩:=HRF.out.getC j hlt;have q0:=q 0 (by omega);have q1:=q 1 (by omega);have q2:=q 2 (by omega)
  rw[Nat.add_zero]at q0;simp only[UF.cells,List.getElem?_cons_zero,List.getElem?_cons_succ]at q0 q1 q2;have hj1:(j:Int)<u.fn:=by omega
  have HFF:=hzz (HF.out.fd f (List.mem_of_getElem? hfx))
  have HSN:=hzz (show s3.fields (u.fields.take (j+1))=((((s3.fields (u.fields.take j)).1).field f).1,(s3.fields (u.fields.take j)).2++[(((s3.fields (u.fields.take j)).1).field f).2]) by
   have hjl:=(gsz hfx).1;rw[List.take_succ_eq_append_getElem hjl,(gsz hfx).2,C2e])
  have hln:=B5g s3 (u.fields.take j);rw[List.length_take,HFL.out,Nat.min_eq_left hj]at hln
  have hxn:x.fn=j:=by
   have h1:=congrArg (fun y=>y.fields.length) HX.out;have h2:=HJ.out.w.fn';have h3:=B5j s3 (u.fields.take j);rw[List.length_take,HFL.out,Nat.min_eq_left hj]at h3;dsimp only[KF.lp]at h1
   omega
  generalize s3.fields (u.fields.take j)=SJ at*;obtain⟨sj,lj⟩:=SJ;dsimp only at HX HJ HSN hln;have HXN:=hzz hxn;clear hfx q hxn HRF
  go_upto_region 9 with fail
  have hal:=A0f wr (.cells #[.bool f.st,.string ⟨f.nm.toArray⟩,.string ⟨f.ds.toArray⟩] 52)
  have HT1:=hzz (show(wr.alloc (.cells #[.bool f.st,.string ⟨f.nm.toArray⟩,.string ⟨f.ds.toArray⟩] 52)).heap[wr.heap.size]? =some (.cells f.cells.toArray 52 (0,0))from heap_alloc_last wr _)
  have HJ1:=hzz (HJ.out.below hal);clear hal q0 q1 q2 hbq hbl HJ;generalize wr.alloc _=W at*;generalize wr.heap.size=gx at*;obtain⟨b1,hb1⟩:∃b,b=A5e f.nm:=⟨_,rfl⟩
  obtain⟨b2,hb2⟩:∃b,b=typeB f.ds:=⟨_,rfl⟩;have HI1:=hzz (fun W hv=>A4s W f.nm HFF.out.1 hv);have HI2:=hzz (fun W hv=>A2v W f.ds HFF.out.2 hv);obtain⟨RT,hRT⟩:=exz (sj.field f)
  rw[<-hRT]at HSN;unfold LW.field at hRT;dsimp only at hRT;rw[<-hb1]at HI1 hRT;rw[<-hb2]at HI2 hRT;have h0s:(sj.need (b1&&b2) 8).l=sj.l:=rfl;have hl4:=A1x (sj.need (b1&&b2) 8) f.nm
  rw[h0s]at hl4;have HT2:=hzz (fun V hs hB9=>A2i V w.heap.size g (sj.need (b1&&b2) 8) f.nm hs HFF.out.1 (show sj.l.length<=_ by omega) hB9);generalize(sj.need (b1&&b2) 8).text f.nm=n4 at*
  obtain⟨s4,i4⟩:=n4;dsimp only at HT2 hl4 hRT;have HT3:=hzz (fun V hs hB9=>A2i V w.heap.size g s4 f.ds hs HFF.out.2 (by omega) hB9);generalize s4.text f.ds=n5 at*;obtain⟨s5,i5⟩:=n5
  dsimp only at HT3 hRT;have HRT:=hzz hRT;clear hRT hb1 hb2
  go_cut [] (fun wx=>Hid (FlJ w wx g go u x (sj.need (b1&&b2) 8))/\Hid (wx.heap[gx]? =some (.cells f.cells.toArray 52 (0,0))))
  case first=>
   have f1:W.cell? ⟨gx,1,none⟩=some (.string ⟨f.nm.toArray⟩):=A0a HT1.out 1 rfl;have HND:=hzz (fun V ok (h:LoS V w.heap.size g sj)=>A0v V w.heap.size g sj ok 8 h)
   go_wp2_with fail
   refine(HI1.out W HJ1.out.h.hs.vw).mono ?_;rintro e V1 ⟨rfl,hb1⟩;have HJ2:=hzz (HJ1.out.below hb1);have HTa:=hzz (A0e HT1.out hb1);clear hb1 HJ1 HT1 f1
   cases b1
   ·go_wp2_with fail
    refine(HND.out V1 false HJ2.out.h.hs).mono ?_;rintro e V2 ⟨rfl,hs,hk⟩
    go_wp2_with fail
    go_meet;exact⟨hzz (HJ2.out.call hs hk),hzz (hk.row HTa.out (by decide) (by decide))⟩
   have f2:V1.cell? ⟨gx,2,none⟩=some (.string ⟨f.ds.toArray⟩):=A0a HTa.out 2 rfl
   go_wp2_with fail
   refine(HI2.out V1 HJ2.out.h.hs.vw).mono ?_;rintro e V2 ⟨rfl,hb2⟩;have HJ3:=hzz (HJ2.out.below hb2);have HTb:=hzz (A0e HTa.out hb2);clear hb2 HJ2 HTa f2
   go_wp2_with fail
   refine(HND.out V2 b2 HJ3.out.h.hs).mono ?_;rintro e V3 ⟨rfl,hs,hk⟩
   go_wp2_with fail
   go_meet;exact⟨hzz (HJ3.out.call hs hk),hzz (hk.row HTb.out (by decide) (by decide))⟩
  obtain⟨HJ2,HTa⟩:=hcut;clear HJ1 HT1 HI1 HI2
  go_upto_region 10 with fail
  have HJd:=hzz (HJ2.out.below (brz.drew));have HTd:=hzz (A0e HTa.out ((Below.refl _ wc).drew));have hSw:BxF gx go f (.slice x.fa x.fn x.fc) wc.drew:=⟨HTd.out,A0a HJd.out.o 3 rfl⟩
  have l0:=fun z (h:BxF gx go f (.slice x.fa x.fn x.fc) z)=>h.2
  have l1:∀z,BxF gx go f (.slice x.fa x.fn x.fc) z->z.cell? ⟨gx,0,none⟩=some (.bool f.st):=fun z h=>A0a h.1 0 rfl
  have l2:∀z,BxF gx go f (.slice x.fa x.fn x.fc) z->z.cell? ⟨gx,1,none⟩=some (.string ⟨f.nm.toArray⟩):=fun z h=>A0a h.1 1 rfl
  have l3:∀z,BxF gx go f (.slice x.fa x.fn x.fc) z->z.cell? ⟨gx,2,none⟩=some (.string ⟨f.ds.toArray⟩):=fun z h=>A0a h.1 2 rfl
  refine A0t (BxF gx go f (.slice x.fa x.fn x.fc)) 17 [(0,true),(1,true),(2,true),(3,true),(5,true),(6,true),(7,true),(9,true),(10,true),(11,true),(4,false),(8,false),(12,false),(13,true),(14,false),(15,false),(16,true)] (by kernel_rfl) (by kernel_rfl) (fun c a d v w h=>by cases d<;>exact h) ?_
  generalize wc.drew=V0 at*
  iterate 10
   refine A0d fun K hK=>tkF ?_
   go_simp
   try go_bits
   refine hK _ _ ?_;clear hK K
  refine A0d fun K hK=>alF ?_
  go_step;refine(B0f V0 f.st).mono ?_;rintro e V9 ⟨rfl,hq⟩;replace hq:=hq.symm;subst hq;go_simp
  first|refine⟨hSw,hK _ _ ?_⟩|refine hK _ _ ?_
  clear hK K;refine A0d fun K hK=>alF ?_
  go_step;refine(HT2.out V0 HJd.out.h.hs HJd.out.h.hk.size).mono ?_;rintro e V1 ⟨rfl,hs9,hk9⟩;have HJ3:=hzz (HJd.out.call hs9 hk9);have HTb:=hzz (hk9.row HTd.out (by decide) (by decide))
  have hSn:BxF gx go f (.slice x.fa x.fn x.fc) V1:=⟨HTb.out,A0a HJ3.out.o 3 rfl⟩;clear hs9 hk9 hSw HJd HTd HJ2 HTa HT2;have hSw:=hSn;clear hSn;go_simp
  first|refine⟨hSw,hK _ _ ?_⟩|refine hK _ _ ?_
  clear hK K;refine A0d fun K hK=>alF ?_
  go_step;refine(HT3.out V1 HJ3.out.h.hs HJ3.out.h.hk.size).mono ?_;rintro e V2 ⟨rfl,hs9,hk9⟩;have HJ4:=hzz (HJ3.out.call hs9 hk9);have HTc:=hzz (hk9.row HTb.out (by decide) (by decide))
  have hSn:BxF gx go f (.slice x.fa x.fn x.fc) V2:=⟨HTc.out,A0a HJ4.out.o 3 rfl⟩;clear hs9 hk9 hSw HJ3 HTb HT3;have hSw:=hSn;clear hSn;go_simp
  first|refine⟨hSw,hK _ _ ?_⟩|refine hK _ _ ?_
  clear hK K
  iterate 1
   refine A0d fun K hK=>tkF ?_
   go_simp
   try go_bits
   refine hK _ _ ?_;clear hK K
  refine A0d fun K hK=>alF ?_
  go_step;have hal:Below V2.heap.size V2 (V2.alloc (.cells #[.int .i64 (A1w f.st),.int .i64 (i4:Nat),.int .i64 (i5:Nat)] D4r)):=A0f _ _
  have hSx:BxF gx go f (.slice x.fa x.fn x.fc) (V2.alloc (.cells #[.int .i64 (A1w f.st),.int .i64 (i4:Nat),.int .i64 (i5:Nat)] D4r)):=⟨A0e hSw.1 hal,A0c hal hSw.2⟩
  refine⟨hSx,hK _ _ ?_⟩;clear hK K hSw hSx hal;refine A0d fun K hK=>alF ?_
  change Oper.wp _ _ _ _ _ _;have hxt:x.fn<=1024:=by rw[HXN.out];omega
  refine A3h E0m (ops:= #[]) rfl _ _ _ rfl w.heap.size _ x.fn _ rfl (HJ4.out.w.fields.alloc _) _ 1 _ rfl (Src.litS (m:=1) rfl rfl E0m.1) (by omega) (by unfold maxLen;omega) (Nat.le_trans HJ4.out.h.hk.size (by simp)) ?_
  intro v9 w9 hown9 hg9 hb9;have hown8:w9.ownsRow w.heap.size D4r 3 v9 (x.fn+1) ((x.fields++[(⟨A1w f.st,(i4:Nat),(i5:Nat)⟩:KD)]).flatMap KD.cells):=(by rw[List.flatMap_append];exact hown9)
  obtain⟨a9,c9,rfl,-,-⟩:=Ss.ofOwn KD.cells_length (by decide) hown8;have hkt:=A2p.app HJ4.out.w.fields hg9
  have hb8:Below w.heap.size V2 w9:=(((Below.refl V2.heap.size V2).alloc nlz _).mono HJ4.out.h.hk.size).trans hb9
  have HAP:=hzz (HJ4.out.app hw0 HJ4.out.w.fields hg9 hb8 (by decide) (by decide) (by decide) (by decide));have HOW:=hzz (HJ4.out.w.fields1 hkt hown8)
  have hSw:BxF gx go f (.slice x.fa x.fn x.fc) w9:=⟨hkt.2 _ _ _ _ HTc.out (by decide),A0a HAP.out.2 3 rfl⟩;clear hown9 hown8 hg9 hb9 hb8 hkt HJ4 HTc;refine⟨hSw,hK _ _ ?_⟩;clear hK K
  iterate 1
   refine A0d fun K hK=>tkF ?_
   go_simp
   try go_bits
   refine hK _ _ ?_;clear hK K
  have fo:=A0n HAP.out.2 3;have lo:=A0r HAP.out.2;have co:=A0a HAP.out.2 3 rfl;dsimp only[KF.cells]at co;refine A1u (laF ?_);go_step
  have HJ9:=hzz (HAP.out.1.put (x':={x with fa:=a9,fn:=x.fn+1,fc:=c9,fields:=x.fields++[(⟨A1w f.st,(i4:Nat),(i5:Nat)⟩:KD)]}) HAP.out.2 hgo 3 (.slice a9 (x.fn+1) c9) rfl HOW.out)
  clear hSw fo lo co HAP HOW l0 l1 l2 l3
  go_wp2_with fail
  go_roundg (u.fn-(j+1))
  case measure=>omega
  exact⟨j+1,{x with fa:=a9,fn:=x.fn+1,fc:=c9,fields:=x.fields++[(⟨A1w f.st,(i4:Nat),(i5:Nat)⟩:KD)]},by omega,rfl,by go_num,hzz (by rw[HSN.out,HRT.out];exact KF.lp_fields1 HX.out _ _ _ _),hzz (by rw[HSN.out,HRT.out];exact HJ9.out)⟩
 have hjt:j=u.fn:=by omega
 subst hjt;have hfull:u.fields.take u.fn=u.fields:=List.take_of_length_le (by rw[HFL.out];exact Nat.le_refl _);rw[hfull]at HX HJ;have hl5:=B5g s3 u.fields;rw[HFL.out]at hl5
 generalize s3.fields u.fields=S5 at*;obtain⟨s5,fds⟩:=S5;dsimp only at HX HJ HLO hl5;obtain⟨W9,hW9⟩:=exz (wr);subst hW9
 have u3:W9.cell? ⟨w.heap.size,3,none⟩=some (.slice u.ma u.mn u.mc):=A0a HJ.out.h.u 3 rfl;have HML:=hzz HU.out.methods.1;have hfm0:=hfm;rw[HML.out]at hfm;clear hfull hlt hj
 go_wp2_with fail
 go_loopg [69] u.mn (fun gn i wx=>∃(k:Nat) (x:KF),k<=u.mn/\gn=u.mn-k/\i= .int .i64 k/\Hid (x.lp=⟨none,0,0,[],(th:Nat),(su:Nat),none,0,0,fds,none,0,0,(s5.methods (u.methods.take k)).2⟩)/\Hid (FlJ w wx g go u x (s5.methods (u.methods.take k)).1))
 case atStart=>exact⟨0,_,by omega,by omega,by go_num,HX,HJ⟩
 clear HX HJ u3;obtain⟨k,x,hk,rfl,rfl,HX,HJ⟩:=hrel;by_cases hlt:k<u.mn
 ·have HRM:=hzz (HU.out.methods.below (HBW.out _ _ HJ.out.h));obtain⟨bq,off,m,hbq,hbl,hm,q⟩:=HRM.out.getC k hlt;have q0:=q 0 (by omega);have q1:=q 1 (by omega);have q2:=q 2 (by omega)
  have q3:=q 3 (by omega);have q4:=q 4 (by omega);have q5:=q 5 (by omega);have q6:=q 6 (by omega);have q7:=q 7 (by omega);rw[Nat.add_zero]at q0
  simp only[UM.cells,List.getElem?_cons_zero,List.getElem?_cons_succ]at q0 q1 q2 q3 q4 q5 q6 q7;have hj1:(k:Int)<u.mn:=by omega
  have hmm:=List.mem_of_getElem? hm;have HFM:=hzz (HF.out.mt m hmm);have HMR:=hzz (HU.out.each m hmm)
  have HSN:=hzz (show s5.methods (u.methods.take (k+1))=((((s5.methods (u.methods.take k)).1).method m).1,(s5.methods (u.methods.take k)).2++[(((s5.methods (u.methods.take k)).1).method m).2]) by
   have hjl:=(gsz hm).1;rw[List.take_succ_eq_append_getElem hjl,(gsz hm).2,B7z])
  have hln:=C0v s5 (u.methods.take k) (fun m hm=>HF.out.mt m (List.mem_of_mem_take hm));rw[List.length_take,HML.out,Nat.min_eq_left hk]at hln
  have hxn:x.mn=k:=by
   have h1:=congrArg (fun y=>y.methods.length) HX.out;have h2:=HJ.out.w.mn';have h3:=B3y s5 (u.methods.take k);rw[List.length_take,HML.out,Nat.min_eq_left hk]at h3;dsimp only[KF.lp]at h1
   rw[List.length_map]at h1;omega
  generalize s5.methods (u.methods.take k)=SJ at*;obtain⟨sj,lj⟩:=SJ;dsimp only at HX HJ HSN hln;have HXN:=hzz hxn;clear hm q hxn HRM hmm
  go_upto_region 15 with fail
  have hal:=A0f wr (.cells #[.bool m.st,.string ⟨m.nm.toArray⟩,.string ⟨m.ds.toArray⟩,.int .i64 m.sk,.int .i64 m.lo,.slice m.ca m.cn m.cc,.slice m.ta m.tn m.tc,.slice m.ma m.mn m.mc] A1d)
  have HT1:=hzz (show(wr.alloc (.cells #[.bool m.st,.string ⟨m.nm.toArray⟩,.string ⟨m.ds.toArray⟩,.int .i64 m.sk,.int .i64 m.lo,.slice m.ca m.cn m.cc,.slice m.ta m.tn m.tc,.slice m.ma m.mn m.mc] A1d)).heap[wr.heap.size]? =some (.cells m.cells.toArray A1d (0,0))from heap_alloc_last wr _)
  have HJ1:=hzz (HJ.out.below hal);clear hal q0 q1 q2 q3 q4 q5 q6 q7 hbq hbl HJ;generalize wr.alloc _=W at*;generalize wr.heap.size=gx at*;have HJd:=hzz (HJ1.out.below (brz.drew))
  have HTd:=hzz (A0e HT1.out ((Below.refl _ W).drew));have hSw:BxN gx go m (.slice x.ma x.mn x.mc) W.drew:=⟨HTd.out,A0a HJd.out.o 4 rfl⟩
  have l0:=fun z (h:BxN gx go m (.slice x.ma x.mn x.mc) z)=>h.2
  have l1:=fun z (h:BxN gx go m (.slice x.ma x.mn x.mc) z)=>A0a h.1 0 rfl
  have l2:=fun z (h:BxN gx go m (.slice x.ma x.mn x.mc) z)=>A0a h.1 1 rfl
  have l3:=fun z (h:BxN gx go m (.slice x.ma x.mn x.mc) z)=>A0a h.1 2 rfl
  have l4:=fun z (h:BxN gx go m (.slice x.ma x.mn x.mc) z)=>A0a h.1 3 rfl
  have l5:=fun z (h:BxN gx go m (.slice x.ma x.mn x.mc) z)=>A0a h.1 4 rfl
  have l6:=fun z (h:BxN gx go m (.slice x.ma x.mn x.mc) z)=>A0a h.1 5 rfl
  have l7:=fun z (h:BxN gx go m (.slice x.ma x.mn x.mc) z)=>A0a h.1 6 rfl
  have l8:=fun z (h:BxN gx go m (.slice x.ma x.mn x.mc) z)=>A0a h.1 7 rfl
  dsimp only[UM.cells]at l1 l2 l3 l4 l5 l6 l7 l8
  refine A0t (BxN gx go m (.slice x.ma x.mn x.mc)) 8 [(0,true),(1,true),(2,true),(3,true),(4,false),(5,false),(6,false),(7,true)] (by kernel_rfl) (by kernel_rfl) (fun c a d v w h=>by cases d<;>exact h) ?_
  generalize W.drew=V0 at*
  iterate 4
   refine A0d fun K hK=>tkF ?_
   go_simp
   try go_bits
   refine hK _ _ ?_;clear hK K
  have HME:=hzz (B9q V0 w w.heap.size g sj m HJd.out.h.hs HMR.out (HBW.out _ _ HJd.out.h) nlz HFM.out (by omega) HJd.out.h.hk.size hw0);unfold B3g at HME;generalize sj.method m=RM at*
  obtain⟨s6,mm⟩:=RM;dsimp only at HME HSN;refine A0d fun K hK=>alF ?_
  go_step;refine HME.out.mono ?_;rintro e V1 ⟨y,rfl,hyp,hyo,hs9,hk9⟩;have HY:=hzz hyp;have HYO:=hzz (hyo.mono HJd.out.h.hk.size);have HJ4:=hzz (HJd.out.call hs9 hk9)
  have HTb:=hzz (hk9.row HTd.out (by decide) (by decide));have hSn:BxN gx go m (.slice x.ma x.mn x.mc) V1:=⟨HTb.out,A0a HJ4.out.o 4 rfl⟩;clear hyp hyo hs9 hk9 hSw HJd HTd HME HJ1 HT1;have hSw:=hSn
  clear hSn;dsimp only[KM.cells];go_simp
  first|refine⟨hSw,hK _ _ ?_⟩|refine hK _ _ ?_
  clear hK K;refine A0d fun K hK=>alF ?_
  go_step
  have hal:Below V1.heap.size V1 (V1.alloc (.cells #[.int .i64 y.fl,.int .i64 y.nm,.int .i64 y.ds,.int .i64 y.st,.int .i64 y.lo,.slice y.ca y.cn y.cc,.slice y.ta y.tn y.tc,.slice y.ma y.mn y.mc] FMT)):=A0f _ _
  have hSx:BxN gx go m (.slice x.ma x.mn x.mc) (V1.alloc (.cells #[.int .i64 y.fl,.int .i64 y.nm,.int .i64 y.ds,.int .i64 y.st,.int .i64 y.lo,.slice y.ca y.cn y.cc,.slice y.ta y.tn y.tc,.slice y.ma y.mn y.mc] FMT)):=⟨A0e hSw.1 hal,A0c hal hSw.2⟩
  refine⟨hSx,hK _ _ ?_⟩;clear hK K hSw hSx hal;refine A0d fun K hK=>alF ?_
  change Oper.wp _ _ _ _ _ _;have hxt:x.mn<=1024:=by rw[HXN.out];omega
  refine A3h E0t (ops:= #[]) rfl _ _ _ rfl w.heap.size _ x.mn _ rfl (HJ4.out.w.methods.alloc _) _ 1 _ rfl (Src.litS (m:=1) rfl rfl E0t.1) (by omega) (by unfold maxLen;omega) (Nat.le_trans HJ4.out.h.hk.size (by simp)) ?_
  intro v9 w9 hown9 hg9 hb9;have hown8:w9.ownsRow w.heap.size FMT 8 v9 (x.mn+1) ((x.methods++[y]).flatMap KM.cells):=(by rw[List.flatMap_append];exact hown9)
  obtain⟨a9,c9,rfl,-,-⟩:=Ss.ofOwn KM.cells_length (by decide) hown8;have hkt:=A2p.app HJ4.out.w.methods hg9
  have hb8:Below w.heap.size V1 w9:=(((Below.refl V1.heap.size V1).alloc nlz _).mono HJ4.out.h.hk.size).trans hb9
  have HAP:=hzz (HJ4.out.app hw0 HJ4.out.w.methods hg9 hb8 (by decide) (by decide) (by decide) (by decide))
  have HOW:=hzz (HJ4.out.w.methods1 hkt (HYO.out.keptT hkt (by decide) (by decide) (by decide) (by decide)) hown8)
  have hSw:BxN gx go m (.slice x.ma x.mn x.mc) w9:=⟨hkt.2 _ _ _ _ HTb.out (by decide),A0a HAP.out.2 4 rfl⟩;clear hown9 hown8 hg9 hb9 hb8 hkt HJ4 HTb HYO;refine⟨hSw,hK _ _ ?_⟩;clear hK K
  iterate 1
   refine A0d fun K hK=>tkF ?_
   go_simp
   try go_bits
   refine hK _ _ ?_;clear hK K
  have fo:=A0n HAP.out.2 4;have lo:=A0r HAP.out.2;have co:=A0a HAP.out.2 4 rfl;dsimp only[KF.cells]at co;refine A1u (laF ?_);go_step
  have HJ9:=hzz (HAP.out.1.put (x':={x with ma:=a9,mn:=x.mn+1,mc:=c9,methods:=x.methods++[y]}) HAP.out.2 hgo 4 (.slice a9 (x.mn+1) c9) rfl HOW.out)
  clear hSw fo lo co HAP HOW l0 l1 l2 l3 l4 l5 l6 l7 l8
  go_wp2_with fail
  go_roundg (u.mn-(k+1))
  case measure=>omega
  exact⟨k+1,{x with ma:=a9,mn:=x.mn+1,mc:=c9,methods:=x.methods++[y]},by omega,rfl,by go_num,hzz (by rw[HSN.out];have h:=KF.lp_methods1 HX.out a9 (x.mn+1) c9 y;rw[HY.out]at h;exact h),hzz (by rw[HSN.out];exact HJ9.out)⟩
 have hkt:k=u.mn:=by omega
 subst hkt;have hfull:u.methods.take u.mn=u.methods:=List.take_of_length_le (by rw[HML.out];exact Nat.le_refl _);rw[hfull]at HX HJ;generalize s5.methods u.methods=S6 at*;obtain⟨s6,mts⟩:=S6
 dsimp only at HX HJ HLO;clear hfull hlt hk;obtain⟨a,cap,b,hlx⟩:=HJ.out.h.hs;have HLX:=hzz hlx;obtain⟨c0,c1,c2,g0,g1,g2,glt⟩:=hlx.k.box;have fo:=A0n HJ.out.o 0;have lo:=A0r HJ.out.o
 have co:=A0a HJ.out.o 0 rfl;dsimp only[KF.cells]at co;clear hlx
 go_upto_region 18 with fail
 have HJ1:=hzz (show FlJ w (wr.setCell ⟨go,0,none⟩ (.slice a s6.l.length cap)) g go u {x with pa:=a,pn:=s6.l.length,pc:=cap,pool:=s6.l} s6 from HJ.out.h.put HJ.out.o hgo 0 _ rfl ⟨HJ.out.w.fields,HJ.out.w.methods,HJ.out.w.each⟩)
 have HOP:=hzz (A0k HLX.out.o (A1p HJ.out.o 0 (.slice a s6.l.length cap)) (show A6e≠A3s by decide))
 have HXL:=hzz (show KF.lp {x with pa:=a,pn:=s6.l.length,pc:=cap,pool:=s6.l}=(A9x u).2 from by
  rw[HLO.out];have h:=HX.out;simp only[KF.lp,KF.mk.injEq]at h⊢;obtain⟨-,-,-,e1,e2,e3,-,-,-,e4,-,-,-,e5⟩:=h
  exact⟨trivial,trivial,trivial,trivial,e2,e3,trivial,trivial,trivial,e4,trivial,trivial,trivial,e5⟩)
 have HES:=hzz (show(A9x u).1=s6 from by rw[HLO.out])
 have HGK:=hzz (show C6z (wr.setCell ⟨go,0,none⟩ (.slice a s6.l.length cap)) g (.slice a s6.l.length cap) (.map (some b)) (.int .i64 s6.e) B3f from A1r HLX.out.k (by omega) 0 _);rw[HES.out]at HGO HE
 clear c0 c1 c2 g0 g1 g2 glt fo lo co HJ HX HLO HLX;generalize wr.setCell ⟨go,0,none⟩ (.slice a s6.l.length cap)=V1 at*
 generalize hx1:({x with pa:=a,pn:=s6.l.length,pc:=cap,pool:=s6.l}:KF)=x1 at*
 have HOX:=hzz (show V1.ownsRow w.heap.size A6e 5 (.slice x1.pa x1.pn x1.pc) x1.pn (x1.pool.flatMap KV.cells)from by rw[<-hx1];exact HOP.out);have HBV:=hzz (HBW.out _ _ HJ1.out.h);have HZ1:=hzz HJ1.out.h.z
 clear hx1 HOP;obtain⟨c0,c1,c2,g0,g1,g2,glt⟩:=HGK.out.box;by_cases h0:s6.e=0
 ·have e0:(s6.e==0)=true:=by simpa using h0
  have HSE:=hzz h0;have HRD:=hzz (HJ1.out.w.rd HOX.out);have HFT:=hzz (D6q u HF.out x1 V1 HXL.out HRD.out (by rw[HES.out];exact h0));have HCH:=hzz (B5m V1 x1 HRD.out HFT.out)
  unfold B0t at HCH
  obtain⟨r,hr⟩:∃r:Int,r=if A2r x1 then 0 else 8:=⟨_,rfl⟩
  rw[<-hr]at HCH;have HLE:=hzz (show C5q u=r from by rw[HE.out,if_pos h0,hr,<-B6k x1,HXL.out]);have x0:=A0a HJ1.out.o 0 rfl;have x1c:=A0a HJ1.out.o 1 rfl
  have x2:=A0a HJ1.out.o 2 rfl;have x3:=A0a HJ1.out.o 3 rfl;have x4:=A0a HJ1.out.o 4 rfl;dsimp only[KF.cells]at x0 x1c x2 x3 x4;clear h0 hr
  go_wp2_with fail
  refine HCH.out.mono ?_;rintro e V2 ⟨rfl,hb2⟩;have HG2:=hzz (HGK.out.below hb2);have HJ2:=hzz (HJ1.out.below hb2);have HO2:=hzz (A0x HOX.out hb2);have HB2:=btz HBV hb2
  clear hb2 HCH HGK HJ1 HRD HBV HZ1 c0 c1 c2 g0 g1 g2 glt x0 x1c x2 x3 x4 HOX;obtain⟨c0,c1,c2,g0,g1,g2,glt⟩:=HG2.out.box
  go_upto_region 20 with fail
  have HG3:=hzz (show C6z (V2.setCell ⟨g,2,none⟩ (.int .i64 r)) g (.slice a s6.l.length cap) (.map (some b)) (.int .i64 r) B3f from A1k HG2.out 2 _)
  have HZ3:=hzz (show(V2.setCell ⟨g,2,none⟩ (.int .i64 r)).heap[w.heap.size+1]? =some (.cells #[.slice none 0 0,.int .i64 0,.int .i64 0,.slice none 0 0,.slice none 0 0] A3s (0,0))from A1r HJ2.out.h.z (by omega) 2 _)
  have HO3:=hzz (show(V2.setCell ⟨g,2,none⟩ (.int .i64 r)).heap[go]? =some (.cells x1.cells.toArray A3s (0,0))from A1r HJ2.out.o (by omega) 2 _)
  have HW3:=hzz (HJ2.out.w.keptT (A1p HG2.out 2 (.int .i64 r)) (by decide) (by decide) (by decide) (by decide) (by decide) (by decide))
  have HP3:=hzz (A0k HO2.out (A1p HG2.out 2 (.int .i64 r)) (by decide))
  have HB3:=hzz (HB2.out.trans (show Below w.heap.size V2 (V2.setCell ⟨g,2,none⟩ (.int .i64 r))from brz.setCell (show w.heap.size<=g by omega) _));clear HG2 HJ2 HO2 HB2 c0 c1 c2 g0 g1 g2 glt
  generalize V2.setCell ⟨g,2,none⟩ (.int .i64 r)=V3 at*;have c2:V3.cell? ⟨g,2,none⟩=some (.int .i64 r):=HG3.out.box.c2;have HG4:=hzz c2;by_cases hr0:r=0
  ·have e1:(r !=0)=false:=by simp[hr0]
   have HLZ:=hzz (show C5q u=0 from HLE.out.trans hr0);clear hr0
   go_upto_region 22 with fail
   refine wp_region_lit ?_;refine A0y rfl _ _ rfl _ rfl _ _ _ _ HO3.out Tryz.underlying26 rfl A6x ?_;refine wpList_store_row rfl _ _ _ rfl _ _ rfl rfl _ _ HZ3.out A6x rfl (C1y _) ?_
   go_wp2_with fail
   refine bodyPost_ret (A1z rfl _ _ (w.heap.size+1) A3s (KF.cells _).toArray (0,0) _ rfl (setRow_heap _ _ _ _ _ _ HZ3.out) Tryz.underlying26 rfl A6x) rfl ?_
   have hkt:=A1q (cs':=x1.cells.toArray) HZ3.out
   exact⟨x1,by rw[HLZ.out];rfl,fun _=>⟨HXL.out,KF.Ow.rd (HW3.out.keptT hkt (by decide) (by decide) (by decide) (by decide) (by decide) (by decide)) (A0k HP3.out hkt (by decide)),HFT.out⟩,fun h=>absurd HLZ.out h,HB3.out.trans (below_setRow (by omega) _)⟩
  have e1:(r !=0)=true:=by simp[hr0]
  have HNZ:=hzz hr0;clear hr0
  go_upto_region 21 with fail
  have hSw:QEl g (r) V3.drew:=HG4.out;have l0:∀z,QEl g (r) z->z.cell? ⟨g,2,none⟩=some (.int .i64 (r)):=fun z h=>h
  refine A0h (QEl g (r)) (.of [(0,true),(1,true),(2,true),(3,true),(4,true),(5,false)] (.stir [(6,true)])) (by kernel_rfl) (by kernel_rfl) (fun c a d v w h=>by cases d<;>exact h) ?_
  have HZD:=hzz (show V3.drew.heap[w.heap.size+1]? =some (.cells #[.slice none 0 0,.int .i64 0,.int .i64 0,.slice none 0 0,.slice none 0 0] A3s (0,0))from HZ3.out)
  have HBD:=hzz (HB3.out.trans (((Below.refl V3.heap.size V3).drew).mono HB3.out.size));generalize V3.drew=Vd at*
  iterate 5
   refine A0b fun K hK=>tkF ?_
   go_simp
   try go_bits
   refine hK _ _ ?_;clear hK K
  refine A0b fun K hK=>alF ?_
  refine wp_store_row A3s _ _ rfl (w.heap.size+1) #[.slice none 0 0,.int .i64 0,.int .i64 0,.slice none 0 0,.slice none 0 0] rfl rfl A3s _ HZD.out A6x rfl (C1y ⟨none,0,0,[],0,0,none,0,0,[],none,0,0,[]⟩) ?_
  have hSn:QEl g (r) (Vd.setRow (w.heap.size+1) #[.slice none 0 0,.int .i64 0,.int .i64 0,.slice none 0 0,.slice none 0 0]):=by
   have h:=hSw;unfold QEl World.cell? at h⊢;rw[setRow_other Vd (w.heap.size+1) g _ (by omega)];exact h
  refine⟨hSn,hK _ _ ?_⟩;clear hK K hSw;refine A0m (fun y=>y=Vd.setRow (w.heap.size+1) #[.slice none 0 0,.int .i64 0,.int .i64 0,.slice none 0 0,.slice none 0 0]) (fun y hy=>hy▸hSn) rfl ?_
  iterate 1
   refine A0i fun K hK=>tkX ?_
   go_simp
   try go_bits
   refine hK _ ?_;clear hK K
  refine A0p (fun y hy=> ?_);subst hy
  go_wp2_with fail
  refine bodyPost_ret (A1z rfl _ _ (w.heap.size+1) A3s (KF.cells ⟨none,0,0,[],0,0,none,0,0,[],none,0,0,[]⟩).toArray (0,0) _ rfl (setRow_heap _ _ _ _ _ _ HZD.out) Tryz.underlying26 rfl A6x) rfl ?_
  exact⟨_,by rw[HLE.out];rfl,fun h=>absurd (HLE.out.symm.trans h) HNZ.out,fun _=>rfl,HBD.out.trans (below_setRow (by omega) _)⟩
 have e0:(s6.e==0)=false:=by simpa using h0
 have e1:(s6.e !=0)=true:=by simpa using h0
 have HNZ:=hzz h0;have HLE:=hzz (show C5q u=s6.e from by rw[HE.out,if_neg h0]);have HG4:=hzz c2;clear h0
 go_upto_region 21 with fail
 have hSw:QEl g (s6.e) V1.drew:=HG4.out;have l0:∀z,QEl g (s6.e) z->z.cell? ⟨g,2,none⟩=some (.int .i64 (s6.e)):=fun z h=>h
 refine A0h (QEl g (s6.e)) (.of [(0,true),(1,true),(2,true),(3,true),(4,true),(5,false)] (.stir [(6,true)])) (by kernel_rfl) (by kernel_rfl) (fun c a d v w h=>by cases d<;>exact h) ?_
 have HZD:=hzz (show V1.drew.heap[w.heap.size+1]? =some (.cells #[.slice none 0 0,.int .i64 0,.int .i64 0,.slice none 0 0,.slice none 0 0] A3s (0,0))from HZ1.out)
 have HBD:=hzz (HBV.out.trans (((Below.refl V1.heap.size V1).drew).mono HBV.out.size));generalize V1.drew=Vd at*
 iterate 5
  refine A0b fun K hK=>tkF ?_
  go_simp
  try go_bits
  refine hK _ _ ?_;clear hK K
 refine A0b fun K hK=>alF ?_
 refine wp_store_row A3s _ _ rfl (w.heap.size+1) #[.slice none 0 0,.int .i64 0,.int .i64 0,.slice none 0 0,.slice none 0 0] rfl rfl A3s _ HZD.out A6x rfl (C1y ⟨none,0,0,[],0,0,none,0,0,[],none,0,0,[]⟩) ?_
 have hSn:QEl g (s6.e) (Vd.setRow (w.heap.size+1) #[.slice none 0 0,.int .i64 0,.int .i64 0,.slice none 0 0,.slice none 0 0]):=by
  have h:=hSw;unfold QEl World.cell? at h⊢;rw[setRow_other Vd (w.heap.size+1) g _ (by omega)];exact h
 refine⟨hSn,hK _ _ ?_⟩;clear hK K hSw;refine A0m (fun y=>y=Vd.setRow (w.heap.size+1) #[.slice none 0 0,.int .i64 0,.int .i64 0,.slice none 0 0,.slice none 0 0]) (fun y hy=>hy▸hSn) rfl ?_
 iterate 1
  refine A0i fun K hK=>tkX ?_
  go_simp
  try go_bits
  refine hK _ ?_;clear hK K
 refine A0p (fun y hy=> ?_);subst hy
 go_wp2_with fail
 refine bodyPost_ret (A1z rfl _ _ (w.heap.size+1) A3s (KF.cells ⟨none,0,0,[],0,0,none,0,0,[],none,0,0,[]⟩).toArray (0,0) _ rfl (setRow_heap _ _ _ _ _ _ HZD.out) Tryz.underlying26 rfl A6x) rfl ?_
 exact⟨_,by rw[HLE.out];rfl,fun h=>absurd (HLE.out.symm.trans h) HNZ.out,fun _=>rfl,HBD.out.trans (below_setRow (by omega) _)⟩
end
end Go.Proofs.YtclpkipaehpkdaaGreatDoor
