/- asm -/
import Derived.Test.YtclpkipaehpkdaaGreatDoorQ11AsmLowers
import Derived.Test.YtclpkipaehpkdaaGreatDoorQ10AsmLowers
import Derived.DeepKeys4
set_option linter.unusedVariables false
set_option linter.unusedSimpArgs false
set_option maxRecDepth 100000
set_option maxHeartbeats 64000000
namespace Go.Proofs.YtclpkipaehpkdaaGreatDoor
section
open Go.ChangeShapes Go.WideShapes Go.ChangeAt Go.RowKit
open Go.Maps (Keyed int_keyed)
theorem A1i{er k:Int}{ok:Bool}(hk:k≠0):A2t er ok k=0↔er=0/\ok=true:=by
 unfold A2t
 cases ok
 ·by_cases h:er=0
  ·rw[if_pos ⟨rfl,h⟩];simp[hk]
  rw[if_neg (fun h'=>h h'.2)];simp[h]
 rw[if_neg (fun h'=>absurd h'.1 (by decide))];simp
def LfR(v:Value)(g:Nat)(a:Option Addr)(n cap:Nat)(L:List KV)(er:Int)(C:Bool)(w:World)(e:Ending)(w':World):Prop:=
 e= .returned v/\(∃er',(er'=0↔er=0/\C=true)/\LfS w' g a n cap L er')/\A0j (fun x=>x=g) w w'
theorem A0j.ofB{B:Nat}{w w':World}(h:Below B w w')(hs:w.heap.size<=w'.heap.size):A0j (fun k=>B<=k) w w':=⟨h.os,h.tape,h.output,hs,fun k hk hq=>h.block k (by omega)⟩
theorem LfS.newer{w0 w w':World}{g:Nat}{a:Option Addr}{n cap:Nat}{L:List KV}{er0 er:Int}(h0:LfS w0 g a n cap L er0)(h:LfS w g a n cap L er){B:Nat}(hB:w0.heap.size<=B)(hk:A0j (fun k=>B<=k) w w'):LfS w' g a n cap L er:=by
 have hg:=h0.lt;refine h.keep hk (fun hh=>by omega) (fun hh=>by have:=h.g0;omega) (fun hn b off e hh=> ?_);obtain⟨b',off',e2,hlt,_⟩:=h0.ks.2 hn;rw[e]at e2
 simp only[Option.some.injEq,Addr.mk.injEq]at e2;omega
def A1w(K:List KV)(s:KS):List UInt8:=
 if s.tag=0 then [84]else if s.tag=1 then [73]else if s.tag=4 then [74]else if s.tag=5 then [78]
 else if A2m (A0s K s.a).1 then(A0s K s.a).1 else D1j (A0s K s.a).1
def A5u(K:List KV)(s:KS):Bool:=decide (s.tag≠7)||aclsB K s.a true
def B9z(s:KS):Prop:=s.tag=0\/s.tag=1\/s.tag=4\/s.tag=5\/s.tag=7
def B6j(t:Int):List UInt8:=if t=0 then [84]else if t=1 then [73]else if t=4 then [74]else if t=5 then [78]else []
theorem A0j.new{p:Nat->Prop}{w w1 w2:World}(h:A0j p w w1)(k:A0j (fun x=>w.heap.size<=x) w1 w2):A0j p w w2:=
 ⟨k.os.trans h.os,k.tape.trans h.tape,k.output.trans h.output,Nat.le_trans h.size k.size,fun i hi hg=>by rw[k.block i (Nat.lt_of_lt_of_le hi h.size) (by omega),h.block i hi hg]⟩
theorem A4j{p:Nat->Prop}{w w':World}{B:Nat}{e:TypeId}{size:Nat}{v:Value}{n:Nat}{xs:List Value}(h:w.ownsRow B e size v n xs)(k:A0j p w w')(hp:∀x,p x->x<B\/w.heap.size<=x):w'.ownsRow B e size v n xs:=by
 refine⟨h.1,?_⟩
 rcases h.2 with⟨h1,h2⟩|⟨b,cap,cur,hv,hb,hc,r⟩
 ·exact .inl ⟨h1,h2⟩
 refine .inr ⟨b,cap,cur,hv,hb,?_,r⟩;have hlt:=(Array.getElem?_eq_some_iff.1 hc).1;rw[k.block b hlt (fun hpb=>by have:=hp b hpb;omega)];exact hc
theorem A3y(K:List KV)(s:KS)(h:s.tag=0\/s.tag=1\/s.tag=4\/s.tag=5):A1w K s=B6j s.tag/\A5u K s=true:=by
 unfold A1w A5u B6j
 rcases h with h|h|h|h<;>simp[h]
theorem B9h(K:List KV)(sa:Int):A1w K ⟨7,sa⟩=(if A2m (A0s K sa).1 then(A0s K sa).1 else D1j (A0s K sa).1)/\A5u K ⟨7,sa⟩=aclsB K sa true:=by
 unfold A1w A5u;simp
theorem D5s{v:Value}{z:DataW Unit×List MemPlace}(h:plainElem Tryz.prog 9 v=some z):∃s:ByteArray,v= .string s/\z=(.lit (.string s.data.toList),[]):=by
 unfold plainElem at h;rw[Tryz.underlying9]at h
 cases v<;>simp at h
 exact⟨_,rfl,h.2.symm⟩
theorem E0j(w:World):(zeroValue 9).run Tryz.prog w= .ok (.string ⟨#[]⟩) w:=by kernel_rfl
abbrev E2u:=175
theorem E4m(W:World)(b:Nat)(h:W.ownsMap Tryz.prog 3 (plainElem (H:=Unit) Tryz.prog 9) b 0 (.map [])):
  ∃w1 w2 w3 w4,(Instr.mapUpdate E2u (.map (some b)) (.int .i64 0) (.string ⟨#[84]⟩)).run Tryz.prog W= .ok () w1/\(Instr.mapUpdate E2u (.map (some b)) (.int .i64 1) (.string ⟨#[73]⟩)).run Tryz.prog w1= .ok () w2/\
   (Instr.mapUpdate E2u (.map (some b)) (.int .i64 4) (.string ⟨#[74]⟩)).run Tryz.prog w2= .ok () w3/\(Instr.mapUpdate E2u (.map (some b)) (.int .i64 5) (.string ⟨#[78]⟩)).run Tryz.prog w3= .ok () w4/\
   (∀t:Int,(t=0\/t=1\/t=4\/t=5\/t=7)->(Instr.lookup E2u (.map (some b)) (.int .i64 t) false).run Tryz.prog w4= .ok (.string ⟨(B6j t).toArray⟩) w4)/\W.grownBy w4 (some b):=by
 have K:=int_keyed (P:=Tryz.prog) Tryz.underlying3
 have ks:∀(s:ByteArray),s.size<=1->plainElem (H:=Unit) Tryz.prog 9 (.string s)=some (.lit (.string s.data.toList),[]):=fun s hs=>plainElem_string Tryz.underlying9 (by unfold maxLen;omega)
 obtain⟨w1,r1,o1,t1⟩:=h.store K Tryz.underlying175 (by decide) (val:= .string ⟨#[84]⟩) (Maps.keyOf_int_mk Tryz.underlying3 (show(Lit.int .i64 0).wf=true by decide)) (ks _ (by decide))
 obtain⟨w2,r2,o2,t2⟩:=o1.store K Tryz.underlying175 (by decide) (val:= .string ⟨#[73]⟩) (Maps.keyOf_int_mk Tryz.underlying3 (show(Lit.int .i64 1).wf=true by decide)) (ks _ (by decide))
 obtain⟨w3,r3,o3,t3⟩:=o2.store K Tryz.underlying175 (by decide) (val:= .string ⟨#[74]⟩) (Maps.keyOf_int_mk Tryz.underlying3 (show(Lit.int .i64 4).wf=true by decide)) (ks _ (by decide))
 obtain⟨w4,r4,o4,t4⟩:=o3.store K Tryz.underlying175 (by decide) (val:= .string ⟨#[78]⟩) (Maps.keyOf_int_mk Tryz.underlying3 (show(Lit.int .i64 5).wf=true by decide)) (ks _ (by decide))
 refine⟨w1,w2,w3,w4,r1,r2,r3,r4,fun t ht=> ?_,((t1.trans t2).trans (t3.trans t4)).grown⟩
 obtain⟨v,ps,hrun,hv⟩:=o4.lookup K Tryz.underlying175 (E0j w4) (ks ⟨#[]⟩ (by decide)) (Maps.keyOf_int_mk Tryz.underlying3 (show(Lit.int .i64 t).wf=true from A1u (by omega)))
 obtain⟨s,rfl,hs⟩:=D5s hv;rw[hrun];simp only[Prod.mk.injEq]at hs;have h1:=hs.1
 have e:s.data.toList=B6j t:=by
  have key:∀d:DataW Unit,d= .lit (.string s.data.toList)->d= .lit (.string (B6j t))->s.data.toList=B6j t:=fun d e1 e2=>by
   rw[e1]at e2;simpa using e2
  rcases ht with rfl|rfl|rfl|rfl|rfl
  ·exact key _ h1 rfl
  ·exact key _ h1 rfl
  ·exact key _ h1 rfl
  ·exact key _ h1 rfl
  exact key _ h1 rfl
 rw[<-e,C1i]
theorem B7d(w:World)(g:Nat)(a:Option Addr)(n cap:Nat)(K:List KV)(er:Int)(za:Option Addr)(zn zc:Nat)(l:List KS)(h:LfS w g a n cap K er)(hz:Ss 2 KS.cells w za zn l)(ho:B1p za zn g)(hzn:zn<=1000000)(ht:∀s∈l,B9z s):
  Calls Tryz.prog 57 #[.pointer (some ⟨g,0,none⟩),.slice za zn zc] w fun e w'=>∃oa oc,LfR (.slice oa zn oc) g a n cap K er (l.all (A5u K)) w e w'/\w'.ownsRow w.heap.size 9 1 (.slice oa zn oc) zn ((l.map (A1w K)).map A6r):=by
 have H:=hzz h;have HZ:=hzz hz;have HZn:=hzz hz.1;have HO:=hzz ho;have HTG:=hzz ht;have hmm:= @run_makeMap Tryz.prog;clear h hz ho ht;go_enter Tryz.func57,Tryz.ntmps57
 go_wp2_with fail
 go_loopg [5,11] zn (fun gn ov i wr=>∃(j:Nat) (er':Int) (oa:Option Addr) (oc:Nat),j<=zn/\gn=zn-j/\ov= .slice oa j oc/\i= .int .i64 j/\Hid (LfS wr g a n cap K er')/\Hid (er'=0↔er=0/\(l.take j).all (A5u K)=true)/\Hid (A0j (fun x=>x=g) w wr)/\Hid (wr.ownsRow w.heap.size 9 1 (.slice oa j oc) j (((l.take j).map (A1w K)).map A6r)))
 case atStart=>exact⟨0,er,none,0,by omega,by omega,rfl,by go_num,H,hzz (by simp),hzz (A0j.refl _ _),hzz (World.ownsRow_nil _ _ _ _)⟩
 obtain⟨j,er',oa,oc,hj,rfl,rfl,rfl,HL,HE,HK,HOW⟩:=hrel;by_cases hlt:j<zn
 ·have hz2:=HK.out.ss HZ.out (fun hn b off e=>HO.out hn b off e);obtain⟨b,off,s,rfl,hbl,hs,q⟩:=hz2.getC j hlt;have q0:=q 0 (by omega);have q1:=q 1 (by omega);rw[Nat.add_zero]at q0
  have hj1:(j:Int)<zn:=by omega
  have htg:=HTG.out s (List.mem_of_getElem? hs)
  have HTK:=hzz (show l.take (j+1)=l.take j++[s] by
   have hjl:=(gsz hs).1;rw[List.take_succ_eq_append_getElem hjl,(gsz hs).2])
  obtain⟨tag,sa⟩:=s;simp only[KS.cells,List.getElem?_cons_zero,List.getElem?_cons_succ]at q0 q1;unfold B9z at htg;simp only at htg;clear hz2 q hs hlt
  have hmade:=World.ownsMap_made (wr.alloc (.cells #[.int .i64 tag,.int .i64 sa] 174)) Tryz.prog 3 (plainElem (H:=Unit) Tryz.prog 9)
  rw[show(wr.alloc (.cells #[.int .i64 tag,.int .i64 sa] 174)).heap.size=wr.heap.size+1 by simp]at hmade;obtain⟨w1,w2,w3,w4,r1,r2,r3,r4,hl,hg4⟩:=E4m _ _ hmade
  have hb4:Below wr.heap.size wr w4:=((Below.refl wr.heap.size wr).alloc nlz _).alloc (by simp) _|>.grown hg4 (by simp;omega) (fun m hm=>by cases hm;omega)
  have hs4:w4.heap[wr.heap.size]? =some (.cells #[.int .i64 tag,.int .i64 sa] 174 (0,0)):=by
   rw[hg4.block wr.heap.size (by simp;omega) (by simp),Below.heap_alloc _ _ _ (by simp)];exact heap_alloc_last wr _
  have s0:w4.cell? ⟨wr.heap.size,0,none⟩=some (.int .i64 tag):=A0a hs4 0 rfl;have s1:w4.cell? ⟨wr.heap.size,1,none⟩=some (.int .i64 sa):=A0a hs4 1 rfl;have HLX:=hzz (HL.out.below hb4)
  have HKX:=hzz (HK.out.trans (A0j.of hb4));have HOX:=hzz (A1p HOW.out hb4);have hbl2:b<wr.heap.size:=hbl;have j0:j<1000000:=by omega
  clear hmade hg4 hb4 HL HK HOW
  rcases htg with rfl|rfl|rfl|rfl|rfl
  ·have HTX:=hzz (show(l.take (j+1)).map (A1w K)=(l.take j).map (A1w K)++[B6j 0] by rw[HTK.out,List.map_append,List.map_singleton,(A3y K ⟨0,sa⟩ (by simp)).1])
   have HEX:=hzz (show er'=0↔er=0/\(l.take (j+1)).all (A5u K)=true by rw[HTK.out,List.all_append,HE.out];simp[(A3y K ⟨0,sa⟩ (by simp)).2]);have hlk:=hl 0 (by simp);clear hl
   obtain⟨tx,htx⟩:=exz (B6j 0);rw[<-htx]at hlk HTX;clear htx
   go_wp2_with (at_builtin;refine A1h C2g rfl _ _ rfl w.heap.size _ j _ rfl HOX.out _ 1 _ _ rfl (by simp) rfl rfl (by omega) (by unfold maxLen;omega) HKX.out.size ?_;intro v9 w9 hown9 hg9 hb9;obtain⟨a9,c9,rfl,-,-⟩:=Sl.ofOwn (enc:=A6r) (xs:=((l.take j).map (A1w K))++[tx]) (by rw[List.map_append];exact hown9);have HO9:=hzz (show w9.ownsRow w.heap.size 9 1 (.slice a9 (j+1) c9) (j+1) ((((l.take j).map (A1w K))++[tx]).map A6r) by rw[List.map_append];exact hown9);have hk9:A0j (fun k=>w.heap.size<=k) w4 w9:=A0j.ofB hb9 (Nat.le_trans (by simp) hg9.size);have HK9:=hzz (HKX.out.new hk9);have HL9:=hzz (H.out.newer HLX.out nlz hk9);clear hown9 hg9 hb9 hk9)
   go_roundg (zn-(j+1))
   case measure=>omega
   exact⟨j+1,_,_,_,by omega,rfl,rfl,by go_num,HL9,HEX,HK9,hzz (by rw[HTX.out];exact HO9.out)⟩
  ·have HTX:=hzz (show(l.take (j+1)).map (A1w K)=(l.take j).map (A1w K)++[B6j 1] by rw[HTK.out,List.map_append,List.map_singleton,(A3y K ⟨1,sa⟩ (by simp)).1])
   have HEX:=hzz (show er'=0↔er=0/\(l.take (j+1)).all (A5u K)=true by rw[HTK.out,List.all_append,HE.out];simp[(A3y K ⟨1,sa⟩ (by simp)).2]);have hlk:=hl 1 (by simp);clear hl
   obtain⟨tx,htx⟩:=exz (B6j 1);rw[<-htx]at hlk HTX;clear htx
   go_wp2_with (at_builtin;refine A1h C2g rfl _ _ rfl w.heap.size _ j _ rfl HOX.out _ 1 _ _ rfl (by simp) rfl rfl (by omega) (by unfold maxLen;omega) HKX.out.size ?_;intro v9 w9 hown9 hg9 hb9;obtain⟨a9,c9,rfl,-,-⟩:=Sl.ofOwn (enc:=A6r) (xs:=((l.take j).map (A1w K))++[tx]) (by rw[List.map_append];exact hown9);have HO9:=hzz (show w9.ownsRow w.heap.size 9 1 (.slice a9 (j+1) c9) (j+1) ((((l.take j).map (A1w K))++[tx]).map A6r) by rw[List.map_append];exact hown9);have hk9:A0j (fun k=>w.heap.size<=k) w4 w9:=A0j.ofB hb9 (Nat.le_trans (by simp) hg9.size);have HK9:=hzz (HKX.out.new hk9);have HL9:=hzz (H.out.newer HLX.out nlz hk9);clear hown9 hg9 hb9 hk9)
   go_roundg (zn-(j+1))
   case measure=>omega
   exact⟨j+1,_,_,_,by omega,rfl,rfl,by go_num,HL9,HEX,HK9,hzz (by rw[HTX.out];exact HO9.out)⟩
  ·have HTX:=hzz (show(l.take (j+1)).map (A1w K)=(l.take j).map (A1w K)++[B6j 4] by rw[HTK.out,List.map_append,List.map_singleton,(A3y K ⟨4,sa⟩ (by simp)).1])
   have HEX:=hzz (show er'=0↔er=0/\(l.take (j+1)).all (A5u K)=true by rw[HTK.out,List.all_append,HE.out];simp[(A3y K ⟨4,sa⟩ (by simp)).2]);have hlk:=hl 4 (by simp);clear hl
   obtain⟨tx,htx⟩:=exz (B6j 4);rw[<-htx]at hlk HTX;clear htx
   go_wp2_with (at_builtin;refine A1h C2g rfl _ _ rfl w.heap.size _ j _ rfl HOX.out _ 1 _ _ rfl (by simp) rfl rfl (by omega) (by unfold maxLen;omega) HKX.out.size ?_;intro v9 w9 hown9 hg9 hb9;obtain⟨a9,c9,rfl,-,-⟩:=Sl.ofOwn (enc:=A6r) (xs:=((l.take j).map (A1w K))++[tx]) (by rw[List.map_append];exact hown9);have HO9:=hzz (show w9.ownsRow w.heap.size 9 1 (.slice a9 (j+1) c9) (j+1) ((((l.take j).map (A1w K))++[tx]).map A6r) by rw[List.map_append];exact hown9);have hk9:A0j (fun k=>w.heap.size<=k) w4 w9:=A0j.ofB hb9 (Nat.le_trans (by simp) hg9.size);have HK9:=hzz (HKX.out.new hk9);have HL9:=hzz (H.out.newer HLX.out nlz hk9);clear hown9 hg9 hb9 hk9)
   go_roundg (zn-(j+1))
   case measure=>omega
   exact⟨j+1,_,_,_,by omega,rfl,rfl,by go_num,HL9,HEX,HK9,hzz (by rw[HTX.out];exact HO9.out)⟩
  ·have HTX:=hzz (show(l.take (j+1)).map (A1w K)=(l.take j).map (A1w K)++[B6j 5] by rw[HTK.out,List.map_append,List.map_singleton,(A3y K ⟨5,sa⟩ (by simp)).1])
   have HEX:=hzz (show er'=0↔er=0/\(l.take (j+1)).all (A5u K)=true by rw[HTK.out,List.all_append,HE.out];simp[(A3y K ⟨5,sa⟩ (by simp)).2]);have hlk:=hl 5 (by simp);clear hl
   obtain⟨tx,htx⟩:=exz (B6j 5);rw[<-htx]at hlk HTX;clear htx
   go_wp2_with (at_builtin;refine A1h C2g rfl _ _ rfl w.heap.size _ j _ rfl HOX.out _ 1 _ _ rfl (by simp) rfl rfl (by omega) (by unfold maxLen;omega) HKX.out.size ?_;intro v9 w9 hown9 hg9 hb9;obtain⟨a9,c9,rfl,-,-⟩:=Sl.ofOwn (enc:=A6r) (xs:=((l.take j).map (A1w K))++[tx]) (by rw[List.map_append];exact hown9);have HO9:=hzz (show w9.ownsRow w.heap.size 9 1 (.slice a9 (j+1) c9) (j+1) ((((l.take j).map (A1w K))++[tx]).map A6r) by rw[List.map_append];exact hown9);have hk9:A0j (fun k=>w.heap.size<=k) w4 w9:=A0j.ofB hb9 (Nat.le_trans (by simp) hg9.size);have HK9:=hzz (HKX.out.new hk9);have HL9:=hzz (H.out.newer HLX.out nlz hk9);clear hown9 hg9 hb9 hk9)
   go_roundg (zn-(j+1))
   case measure=>omega
   exact⟨j+1,_,_,_,by omega,rfl,rfl,by go_num,HL9,HEX,HK9,hzz (by rw[HTX.out];exact HO9.out)⟩
  have hlk:=hl 7 (by simp);rw[show B6j 7=[]from rfl]at hlk;clear hl;have HCL:=hzz (A8k w4 g a n cap K er' sa true HLX.out);have hsl:=A4s HLX.out.tx sa;have hTO:=B9h K sa
  have HIA:=hzz (fun W (hv:VW W)=>A8z W (A0s K sa).1 hsl hv);have HOB:=hzz (fun W=>C7y W (A0s K sa).1 hsl);obtain⟨ib,hib⟩:=exz (A2m (A0s K sa).1);rw[<-hib]at hTO HIA
  have HS4:=hzz hs4;generalize(A0s K sa).1=c at*
  go_wp2_with fail
  refine HCL.out.mono ?_;rintro e w5 ⟨rfl,h5,k5⟩;have HL5:=hzz h5;have HK5:=hzz (HKX.out.trans k5);have HO5:=hzz (A4j HOX.out k5 (fun x hx=> .inl (by have:=H.out.lt;omega)));clear h5 k5 HCL
  go_wp2_with fail
  refine(HIA.out w5 HL5.out.vw).mono ?_;rintro e w6 ⟨rfl,hb6⟩;have HLX:=hzz (HL5.out.below hb6);have HKX:=hzz (HK5.out.trans (A0j.of hb6));have HOX:=hzz (A1p HO5.out hb6)
  have HEX:=hzz (show A2t er' (aclsB K sa true) 8=0↔er=0/\(l.take (j+1)).all (A5u K)=true by
   rw[HTK.out,List.all_append,A1i (by decide),HE.out];simp[hTO.2,and_assoc])
  clear hb6 HIA
  cases ib
  ·have HTX:=hzz (show(l.take (j+1)).map (A1w K)=(l.take j).map (A1w K)++[D1j c] by rw[HTK.out,List.map_append,List.map_singleton,hTO.1];simp);have HOB6:=hzz (HOB.out w6)
   generalize D1j c=tx at*;clear hTO hib HOB
   go_wp2_with fail
   refine HOB6.out.mono ?_;rintro e w7 ⟨rfl,hw7⟩;subst hw7
   go_wp2_with (at_builtin;refine A1h C2g rfl _ _ rfl w.heap.size _ j _ rfl HOX.out _ 1 _ _ rfl (by simp) rfl rfl (by omega) (by unfold maxLen;omega) HKX.out.size ?_;intro v9 w9 hown9 hg9 hb9;obtain⟨a9,c9,rfl,-,-⟩:=Sl.ofOwn (enc:=A6r) (xs:=((l.take j).map (A1w K))++[tx]) (by rw[List.map_append];exact hown9);have HO9:=hzz (show w9.ownsRow w.heap.size 9 1 (.slice a9 (j+1) c9) (j+1) ((((l.take j).map (A1w K))++[tx]).map A6r) by rw[List.map_append];exact hown9);have hk9:A0j (fun k=>w.heap.size<=k) w7 w9:=A0j.ofB hb9 (Nat.le_trans (by simp) hg9.size);have HK9:=hzz (HKX.out.new hk9);have HL9:=hzz (H.out.newer HLX.out nlz hk9);clear hown9 hg9 hb9 hk9)
   go_roundg (zn-(j+1))
   case measure=>omega
   exact⟨j+1,_,_,_,by omega,rfl,rfl,by go_num,HL9,HEX,HK9,hzz (by rw[HTX.out];exact HO9.out)⟩
  have HTX:=hzz (show(l.take (j+1)).map (A1w K)=(l.take j).map (A1w K)++[c] by rw[HTK.out,List.map_append,List.map_singleton,hTO.1];simp);obtain⟨tx,htx⟩:=exz (c);subst htx;clear hTO hib HOB
  go_wp2_with (at_builtin;refine A1h C2g rfl _ _ rfl w.heap.size _ j _ rfl HOX.out _ 1 _ _ rfl (by simp) rfl rfl (by omega) (by unfold maxLen;omega) HKX.out.size ?_;intro v9 w9 hown9 hg9 hb9;obtain⟨a9,c9,rfl,-,-⟩:=Sl.ofOwn (enc:=A6r) (xs:=((l.take j).map (A1w K))++[tx]) (by rw[List.map_append];exact hown9);have HO9:=hzz (show w9.ownsRow w.heap.size 9 1 (.slice a9 (j+1) c9) (j+1) ((((l.take j).map (A1w K))++[tx]).map A6r) by rw[List.map_append];exact hown9);have hk9:A0j (fun k=>w.heap.size<=k) w6 w9:=A0j.ofB hb9 (Nat.le_trans (by simp) hg9.size);have HK9:=hzz (HKX.out.new hk9);have HL9:=hzz (H.out.newer HLX.out nlz hk9);clear hown9 hg9 hb9 hk9)
  go_roundg (zn-(j+1))
  case measure=>omega
  exact⟨j+1,_,_,_,by omega,rfl,rfl,by go_num,HL9,HEX,HK9,hzz (by rw[HTX.out];exact HO9.out)⟩
 obtain rfl:j=zn:=by omega
 have hfull:l.take j=l:=List.take_of_length_le (by rw[HZn.out];exact Nat.le_refl _);rw[hfull]at HE HOW;clear hmm hlt
 go_wp2_with fail
 go_ret;exact⟨_,_,⟨rfl,⟨er',HE.out,HL.out⟩,HK.out⟩,HOW.out⟩
end
section
open Go.ChangeShapes Go.WideShapes Go.ChangeAt Go.RowKit
def A4b(r:RW):IN:=⟨r.op,0,0,[],[],[],[]⟩
def A7j(op:Nat):Bool:=decide (op=178)||(decide (op=179)||(decide (op=180)||decide (op=181)))
def A9w(op:Nat):Bool:=decide (op=182)||decide (op=184)
def B1a(K:List KV)(L:List RW)(r:RW):IN:=
 if A0q r.op=7 then{A4b r with n:=(((B7n L r.a).getD 0:Nat):Int)}
 else if A0q r.op=8 then{A4b r with n:=r.a,m:=r.b}
 else if A0q r.op=5 then B0q K (A4b r) r.a.toNat
 else if A0q r.op=6 then
  (if r.op=20 then B0q K (A4b r) r.a.toNat
   else if A7j r.op then C8n K (A4b r) r.a 9
   else if A9w r.op then C8n K (A4b r) r.a 10
   else{A4b r with cl:=(A0s K r.a).1})
 else{A4b r with n:=r.a}
def B5y(K:List KV)(r:RW):Bool:=
 if A0q r.op=7 then true
 else if A0q r.op=8 then true
 else if A0q r.op=5 then B1m (B0q K (A4b r) r.a.toNat)
 else if A0q r.op=6 then
  (if r.op=20 then B1m (B0q K (A4b r) r.a.toNat)
   else if A7j r.op then B9b typeB K r.a 9
   else if A9w r.op then B9b A3k K r.a 10
   else aclsB K r.a (decide (r.op≠187)))
 else true
theorem A0p:(Tryz.prog.info? A1v).map (·.size)=some 7:=by kernel_rfl
theorem A9f(x:IN):x.cells.toArray.all (·.oneCell')=true:=by
 simp[IN.cells,Value.oneCell']
structure InS(w0 w:World)(g:Nat)(a:Option Addr)(n cap:Nat)(K:List KV)(er:Int)(gr gz gx:Nat)(r:RW)(x:IN)(C:Bool)(er0:Int):Prop where
 k:LfI w g a n cap K er gx x
 raw:w.heap[gr]? =some (.cells r.cells.toArray 118 (0,0))
 zero:∃z:IN,A3u gz z w
 keep:A0j (fun k=>k=g) w0 w
 e:er=0↔er0=0/\C=true
 hr:w0.heap.size<=gr
 hz:w0.heap.size<=gz
 hx:w0.heap.size<=gx
 nzx:gz≠gx
 nrx:gr≠gx
 nrz:gr≠gz
theorem InS.put{w0 w:World}{g:Nat}{a:Option Addr}{n cap:Nat}{K:List KV}{er:Int}{gr gz gx:Nat}{r:RW}{x x':IN}{C:Bool}{er0:Int}(h:InS w0 w g a n cap K er gr gz gx r x C er0)(o:Nat)(v:Value)(hi:A3u gx x' (w.setCell ⟨gx,o,none⟩ v)):
  InS w0 (w.setCell ⟨gx,o,none⟩ v) g a n cap K er gr gz gx r x' C er0:=by
 obtain⟨z,hz⟩:=h.zero;exact⟨h.k.put o v hi,A1d h.raw h.nrx _ _,⟨z,A1d hz h.nzx _ _⟩,h.keep.set (.inr h.hx) o v,h.e,h.hr,h.hz,h.hx,h.nzx,h.nrx,h.nrz⟩
theorem InS.call{w0 w w':World}{g:Nat}{a:Option Addr}{n cap:Nat}{K:List KV}{er er':Int}{gr gz gx:Nat}{r:RW}{x x':IN}{er0:Int}{C:Bool}(h:InS w0 w g a n cap K er gr gz gx r x true er0)(hk:LfI w' g a n cap K er' gx x')(hp:A0j (fun k=>k=g\/k=gx) w w')(he:er'=0↔er=0/\C=true)(hg:g<w0.heap.size):
  InS w0 w' g a n cap K er' gr gz gx r x' C er0:=by
 obtain⟨z,hz⟩:=h.zero;have h1:=h.hr;have h2:=h.hz;refine⟨hk,hp.row h.raw (fun e=> ?_),⟨z,hp.row hz (fun e=> ?_)⟩,?_,by rw[he,h.e];simp,h.hr,h.hz,h.hx,h.nzx,h.nrx,h.nrz⟩
 ·rcases e with e|e
  ·omega
  exact h.nrx e
 ·rcases e with e|e
  ·omega
  exact h.nzx e
 have h3:=h.hx
 exact⟨hp.os.trans h.keep.os,hp.tape.trans h.keep.tape,hp.output.trans h.keep.output,Nat.le_trans h.keep.size hp.size,fun i hi hgi=>by
  rw[hp.block i (Nat.lt_of_lt_of_le hi h.keep.size) (fun e=>by rcases e with e|e;exact hgi e;omega),h.keep.block i hi hgi]⟩
theorem InS.calln{w0 w w':World}{g:Nat}{a:Option Addr}{n cap:Nat}{K:List KV}{er er':Int}{gr gz gx:Nat}{r:RW}{x:IN}{er0:Int}{C:Bool}(h:InS w0 w g a n cap K er gr gz gx r x true er0)(hk:LfS w' g a n cap K er')(hp:A0j (fun k=>k=g) w w')(he:er'=0↔er=0/\C=true)(hg:g<w0.heap.size):
  InS w0 w' g a n cap K er' gr gz gx r x C er0:=
 h.call ⟨hk,h.k.i.keep hp (fun e=>h.k.ne e),h.k.ne,h.k.z,h.k.off⟩ (hp.weak fun k _ e=> .inl e) he hg
theorem A0i{P:Program}{ops:Array Oper}{rest:List Oper}{o:Oper}{a:Act}{w:World}{Q:Exit->Act->World->Prop}(hgd:Region.wanted o (yielded ops a.tmps)=true)(ty:TypeId)(x:Operand)(ho:o.op= .load ty x)
  (g:Nat) (hx:a.eval x= .pointer (some ⟨g,0,none⟩)) (t:TypeId) (cs:Array Value) (fr:Nat×Nat) (d:TypeDesc) (hg:w.heap[g]? =some (.cells cs t fr))
  (hu:P.underlying ty=some d) (hd:(match d with| .struct _| .array _ _=>true|_=>false)=true) (hi:(P.info? ty).map (·.size)=some cs.size)
  (h:wpList P ops Q rest (a.put o.dst (.agg cs)) w):wpList P ops Q (o::rest) a w:=by
 refine wpList_step fun K hK=> ?_
 rw[if_pos hgd];exact wp_load_row ty x ho g hx t cs fr d hg hu hd hi (hK _ _ h)
theorem A0j.setrow{p:Nat->Prop}{w w1:World}(h:A0j p w w1){g:Nat}(hg:p g\/w.heap.size<=g)(cs:Array Value):A0j p w (w1.setRow g cs):=
 ⟨h.os,h.tape,h.output,by have:=h.size;simpa[World.setRow]using this,fun k hk hq=>by
  rw[<-h.block k hk hq];refine setRow_other w1 g k cs ?_;rintro rfl
  rcases hg with h1|h1
  ·exact hq h1
  omega⟩
theorem InS.done{w0 w:World}{g:Nat}{a:Option Addr}{n cap:Nat}{K:List KV}{er:Int}{gr gz gx:Nat}{r:RW}{x:IN}{C:Bool}{er0:Int}(h:InS w0 w g a n cap K er gr gz gx r x C er0)(h0:LfS w0 g a n cap K er0)(cs:Array Value):
  LfR (.agg x.cells.toArray) g a n cap K er0 C w0 (.returned (.agg x.cells.toArray)) (w.setRow gz cs):=
 ⟨rfl,⟨er,h.e,h0.newer h.k.k nlz ((A0j.refl _ _).setrow (.inl h.hz) cs)⟩,h.keep.setrow (.inr h.hz) cs⟩
theorem InS.turn{w0 w w':World}{g:Nat}{a:Option Addr}{n cap:Nat}{K:List KV}{er:Int}{gr gz gx:Nat}{r:RW}{x:IN}{C:Bool}{er0:Int}(h:InS w0 w g a n cap K er gr gz gx r x C er0)(hb:Below w.heap.size w w'):InS w0 w' g a n cap K er gr gz gx r x C er0:=by
 obtain⟨z,hz⟩:=h.zero;exact⟨h.k.below hb,A0c h.raw hb,⟨z,A0c hz hb⟩,h.keep.trans (A0j.of hb),h.e,h.hr,h.hz,h.hx,h.nzx,h.nrx,h.nrz⟩
theorem D6f(w:World)(g:Nat)(a:Option Addr)(n cap:Nat)(K:List KV)(er:Int)(r:RW)(L:List RW)(b:Nat)(h:LfS w g a n cap K er)(hp:A9a w b L)(hb:b≠g)(hop:r.op<256)(hra:A4p r.a)(hc:A0q r.op=5\/A0q r.op=6->0<=r.a/\r.a<1048576):
  Calls Tryz.prog 55 #[.pointer (some ⟨g,0,none⟩),.agg #[.int .i64 r.pos,.int .u8 (r.op:Nat),.int .i64 r.a,.int .i64 r.b],.map (some b)] w (LfR (.agg (B1a K L r).cells.toArray) g a n cap K er (B5y K r) w):=by
 have H:=hzz h;have HP:=hzz hp;have hHF:=fun w=>B1u w r.op hop
 have hbl:=hp.lt;obtain⟨V,hV⟩:=exz (B1a K L r);obtain⟨C,hC⟩:=exz (B5y K r);have HV:=hV;have HC:=hC;unfold B1a at HV;unfold B5y at HC;rw[<-hV,<-hC];clear hV hC
 obtain⟨f,hf⟩:=exz (A0q r.op);rw[<-hf]at HV HC hc;have hHF2:∀w,Calls Tryz.prog 102 #[.int .u8 (r.op:Nat)] w (B0s (.int .i64 (f:Nat)) w):=fun w=>by rw[hf];exact hHF w
 have HF:=hzz hHF2
 have HI0:InS w (((w.alloc (.cells r.cells.toArray 118)).alloc (.cells (⟨0,0,0,[],[],[],[]⟩:IN).cells.toArray A1v)).alloc (.cells (A4b r).cells.toArray A1v)) g a n cap K er w.heap.size (w.heap.size+1) (w.heap.size+1+1) r (A4b r) true er:=by
  have b1:=(((Below.refl w.heap.size w).alloc nlz (.cells r.cells.toArray 118)).alloc (by simp) (.cells (⟨0,0,0,[],[],[],[]⟩:IN).cells.toArray A1v)).alloc (by simp;omega) (.cells (A4b r).cells.toArray A1v)
  have h9:=h.lt;have h8:=h.g0
  have hof:B1p a n (w.heap.size+1+1):=fun hn b off e hh=>by
   obtain⟨b',off',e2,hlt,_⟩:=h.ks.2 hn;rw[e]at e2
   cases e2
   omega
  refine⟨⟨h.below b1,?_,by omega,by omega,hof⟩,?_,⟨⟨0,0,0,[],[],[],[]⟩,?_⟩,A0j.of b1,by simp,by omega,by omega,by omega,by omega,by omega,by omega⟩
  ·unfold A3u;have:=heap_alloc_last ((w.alloc (.cells r.cells.toArray 118)).alloc (.cells (⟨0,0,0,[],[],[],[]⟩:IN).cells.toArray A1v)) (.cells (A4b r).cells.toArray A1v);simpa using this
  ·rw[Below.heap_alloc _ _ _ (by simp;omega),Below.heap_alloc _ _ _ (by simp)];exact heap_alloc_last w _
  unfold A3u;rw[Below.heap_alloc _ _ _ (by simp)];have:=heap_alloc_last (w.alloc (.cells r.cells.toArray 118)) (.cells (⟨0,0,0,[],[],[],[]⟩:IN).cells.toArray A1v);simpa using this
 have HI:=hzz HI0;have HVV:=hzz HV;have HCC:=hzz HC;have HHC:=hzz hc;have HRA:=hzz hra;clear h hp hHF hHF2 HV HC hc hra hf HI0;go_enter Tryz.func55,Tryz.ntmps55
 go_upto_region 2 with fail
 change Hid (InS w (((w.alloc (.cells #[.int .i64 r.pos,.int .u8 (r.op:Nat),.int .i64 r.a,.int .i64 r.b] 118)).alloc (.cells #[.int .u8 0,.int .i64 0,.int .i64 0,.string ⟨#[]⟩,.string ⟨#[]⟩,.string ⟨#[]⟩,.string ⟨#[]⟩] 54)).alloc (.cells #[.int .u8 (r.op:Nat),.int .i64 0,.int .i64 0,.string ⟨#[]⟩,.string ⟨#[]⟩,.string ⟨#[]⟩,.string ⟨#[]⟩] 54)) g a n cap K er w.heap.size (w.heap.size+1) (w.heap.size+1+1) r (A4b r) true er)at HI
 generalize((w.alloc (.cells #[.int .i64 r.pos,.int .u8 (r.op:Nat),.int .i64 r.a,.int .i64 r.b] 118)).alloc (.cells #[.int .u8 0,.int .i64 0,.int .i64 0,.string ⟨#[]⟩,.string ⟨#[]⟩,.string ⟨#[]⟩,.string ⟨#[]⟩] 54)).alloc (.cells #[.int .u8 (r.op:Nat),.int .i64 0,.int .i64 0,.string ⟨#[]⟩,.string ⟨#[]⟩,.string ⟨#[]⟩,.string ⟨#[]⟩] 54)=W at HI⊢
 have r1:=A0a HI.out.raw 1 rfl;dsimp[RW.cells]at r1
 go_wp2_with fail
 refine(HF.out W).mono ?_;rintro e w1 ⟨rfl,hb1⟩;have HI1:=hzz (HI.out.turn hb1);have HP1:=hzz (HP.out.keep HI1.out.keep hb);have hs1:w.heap.size<=w1.heap.size:=HI1.out.keep.size
 have hgl:g<w.heap.size:=H.out.lt;have i0:=A0a HI1.out.k.i 0 rfl;have i1:=A0a HI1.out.k.i 1 rfl;have i2:=A0a HI1.out.k.i 2 rfl;have i3:=A0a HI1.out.k.i 3 rfl
 have q1:=A0a HI1.out.raw 1 rfl;have q2:=A0a HI1.out.raw 2 rfl;have q3:=A0a HI1.out.raw 3 rfl;dsimp[RW.cells,IN.cells,A4b]at i0 i1 i2 i3 q1 q2 q3;clear HI r1 hb1 HP HF hop
 obtain⟨-,-,-,-,-,-,-,f1,f2,f3,-,-,-⟩:=HI1.out.k.i.box;by_cases f7:f=7
 ·have e7:((f:Int)==7)=true:=by subst f7;rfl
  have HV2:=hzz (HVV.out.trans (if_pos f7));have HC2:=hzz (HCC.out.trans (if_pos f7));have hlk:=E0y HP1.out r.a HRA.out;obtain rfl:C=true:=HC2.out;clear f7 HVV HCC HC2 HHC
  go_upto_region 23 with fail
  have HI2:=hzz (HI1.out.put 1 _ (HI1.out.k.i.set1 (((B7n L r.a).getD 0:Nat):Int)));obtain⟨z,hz⟩:=HI2.out.zero;have HZ:=hzz hz;clear hz;refine wp_region_lit ?_
  refine A0i rfl _ _ rfl _ rfl _ _ _ _ HI2.out.k.i Tryz.underlying54 rfl A0p ?_;refine wpList_store_row rfl _ _ _ rfl _ _ rfl rfl _ _ HZ.out A0p rfl (A9f _) ?_
  go_wp2_with fail
  refine bodyPost_ret (results_cell_row rfl _ _ (w.heap.size+1) A1v (IN.cells _).toArray (0,0) _ rfl (setRow_heap _ _ _ _ _ _ HZ.out) Tryz.underlying54 rfl A0p) rfl ?_;rw[HV2.out]
  exact HI2.out.done H.out _
 have e7:((f:Int)==7)=false:=by rw[beq_eq_false_iff_ne];omega
 replace HVV:=hzz (HVV.out.trans (if_neg f7));replace HCC:=hzz (HCC.out.trans (if_neg f7));by_cases f8:f=8
 ·have e8:((f:Int)==8)=true:=by subst f8;rfl
  have HV2:=hzz (HVV.out.trans (if_pos f8));have HC2:=hzz (HCC.out.trans (if_pos f8));obtain rfl:C=true:=HC2.out;clear f7 f8 HVV HCC HC2 HHC HP1 i0 i3 q1
  go_upto_region 7 with fail
  have ld2:∀w':World,w'.heap[w.heap.size]? =some (.cells r.cells.toArray 118 (0,0))->w'.cell? ⟨w.heap.size,2,none⟩=some (.int .i64 r.a):=fun w' h=>A0a h 2 rfl
  have ld3:∀w':World,w'.heap[w.heap.size]? =some (.cells r.cells.toArray 118 (0,0))->w'.cell? ⟨w.heap.size,3,none⟩=some (.int .i64 r.b):=fun w' h=>A0a h 3 rfl
  have HID:=hzz (HI1.out.turn (brz.drew));have hSw:w1.drew.heap[w.heap.size]? =some (.cells r.cells.toArray 118 (0,0)):=HID.out.raw
  have fd1:w1.drew.frozen? ⟨w.heap.size+1+1,1,none⟩=false:=HID.out.k.i.box.f1
  refine A0g (fun wx=>wx.heap[w.heap.size]? =some (.cells r.cells.toArray 118 (0,0))) (.of [(0,true),(1,true),(2,true),(3,true),(4,true),(5,false),(6,true),(7,false)] (.stir [])) (by kernel_rfl) (by kernel_rfl) (fun c a d v w h=>by cases d<;>exact h) ?_
  iterate 5
   refine A0b fun K hK=>tkF ?_
   go_simp
   try go_bits
   refine hK _ _ ?_;clear hK K
  have HI2:=hzz (HID.out.put 1 _ (HID.out.k.i.set1 r.a));refine A0b fun K hK=>alF ?_
  go_step;have hS2:(w1.drew.setCell ⟨w.heap.size+1+1,1,none⟩ (.int .i64 r.a)).heap[w.heap.size]? =some (.cells r.cells.toArray 118 (0,0)):=HI2.out.raw;refine⟨hS2,hK _ _ ?_⟩
  clear hK K hSw fd1 HID HI1;have hSw:=hS2;clear hS2;have fd2:(w1.drew.setCell ⟨w.heap.size+1+1,1,none⟩ (.int .i64 r.a)).frozen? ⟨w.heap.size+1+1,2,none⟩=false:=HI2.out.k.i.box.f2
  iterate 1
   refine A0b fun K hK=>tkF ?_
   go_simp
   try go_bits
   refine hK _ _ ?_;clear hK K
  have HI3:=hzz (HI2.out.put 2 _ (HI2.out.k.i.set2 r.b));refine A0b fun K hK=>alF ?_
  go_step
  have hS3:((w1.drew.setCell ⟨w.heap.size+1+1,1,none⟩ (.int .i64 r.a)).setCell ⟨w.heap.size+1+1,2,none⟩ (.int .i64 r.b)).heap[w.heap.size]? =some (.cells r.cells.toArray 118 (0,0)):=HI3.out.raw
  refine⟨hS3,hK _ _ ?_⟩;clear hK K hSw fd2 HI2
  refine A0k (fun y=>y=(w1.drew.setCell ⟨w.heap.size+1+1,1,none⟩ (.int .i64 r.a)).setCell ⟨w.heap.size+1+1,2,none⟩ (.int .i64 r.b)) (fun y hy=>hy▸hS3) rfl ?_
  refine A0n (fun y hy=> ?_);subst hy;clear hS3 ld2 ld3 f1 f2 f3
  go_upto_region 23 with fail
  obtain⟨z,hz⟩:=HI3.out.zero;have HZ:=hzz hz;clear hz;refine wp_region_lit ?_;refine A0i rfl _ _ rfl _ rfl _ _ _ _ HI3.out.k.i Tryz.underlying54 rfl A0p ?_
  refine wpList_store_row rfl _ _ _ rfl _ _ rfl rfl _ _ HZ.out A0p rfl (A9f _) ?_
  go_wp2_with fail
  refine bodyPost_ret (results_cell_row rfl _ _ (w.heap.size+1) A1v (IN.cells _).toArray (0,0) _ rfl (setRow_heap _ _ _ _ _ _ HZ.out) Tryz.underlying54 rfl A0p) rfl ?_;rw[HV2.out]
  exact HI3.out.done H.out _
 have e8:((f:Int)==8)=false:=by rw[beq_eq_false_iff_ne];omega
 replace HVV:=hzz (HVV.out.trans (if_neg f8));replace HCC:=hzz (HCC.out.trans (if_neg f8));by_cases f5:f=5\/f=6
 ·obtain⟨a0,a1⟩:=HHC.out f5;obtain⟨at_,hat⟩:=exz (r.a.toNat);have hra:r.a=(at_:Int):=by omega
  have hat2:at_<1048576:=by omega
  have HCON:=hzz (C9k w1 g a n cap K er (w.heap.size+1+1) (A4b r) at_ hat2 HI1.out.k);have HRAT:=hzz hra;rw[<-hat]at HVV HCC;rw[<-hra]at HCON;clear hra hat hat2 a0 a1;by_cases f6:f=5
  ·have e5:((f:Int)==5)=true:=by subst f6;rfl
   have HV2:=hzz (HVV.out.trans (if_pos f6));have HC2:=hzz (HCC.out.trans (if_pos f6));obtain rfl:C=B1m (B0q K (A4b r) at_):=HC2.out;clear f7 f8 f5 f6 HVV HCC HC2 HHC HP1 i0 i1 i2 i3 q1 f1 f2 f3
   go_wp2_with fail
   refine HCON.out.mono ?_;rintro e w2 ⟨rfl,hI2,k2⟩;have HI2:=hzz (HI1.out.call hI2 k2 (A1i (by decide)) hgl);clear hI2 k2 HCON HI1 q2 q3
   go_upto_region 23 with fail
   obtain⟨z,hz⟩:=HI2.out.zero;have HZ:=hzz hz;clear hz;refine wp_region_lit ?_;refine A0i rfl _ _ rfl _ rfl _ _ _ _ HI2.out.k.i Tryz.underlying54 rfl A0p ?_
   refine wpList_store_row rfl _ _ _ rfl _ _ rfl rfl _ _ HZ.out A0p rfl (A9f _) ?_
   go_wp2_with fail
   refine bodyPost_ret (results_cell_row rfl _ _ (w.heap.size+1) A1v (IN.cells _).toArray (0,0) _ rfl (setRow_heap _ _ _ _ _ _ HZ.out) Tryz.underlying54 rfl A0p) rfl ?_;rw[HV2.out]
   exact HI2.out.done H.out _
  have e5:((f:Int)==5)=false:=by rw[beq_eq_false_iff_ne];omega
  have e6:((f:Int)==6)=true:=by rw[beq_iff_eq];omega
  replace HVV:=hzz (HVV.out.trans ((if_neg f6).trans (if_pos (show f=6 by omega))));replace HCC:=hzz (HCC.out.trans ((if_neg f6).trans (if_pos (show f=6 by omega))));clear f7 f8 f5 f6 HHC HP1 i0 i1 i2 i3
  by_cases o20:r.op=20
  ·have e20:((r.op:Int)==20)=true:=by rw[o20];rfl
   have HV2:=hzz (HVV.out.trans (if_pos o20));have HC2:=hzz (HCC.out.trans (if_pos o20));obtain rfl:C=B1m (B0q K (A4b r) at_):=HC2.out;clear o20 HVV HCC HC2 f1 f2 f3
   go_wp2_with fail
   refine HCON.out.mono ?_;rintro e w2 ⟨rfl,hI2,k2⟩;have HI2:=hzz (HI1.out.call hI2 k2 (A1i (by decide)) hgl);clear hI2 k2 HCON HI1 q2 q3 q1
   go_upto_region 23 with fail
   obtain⟨z,hz⟩:=HI2.out.zero;have HZ:=hzz hz;clear hz;refine wp_region_lit ?_;refine A0i rfl _ _ rfl _ rfl _ _ _ _ HI2.out.k.i Tryz.underlying54 rfl A0p ?_
   refine wpList_store_row rfl _ _ _ rfl _ _ rfl rfl _ _ HZ.out A0p rfl (A9f _) ?_
   go_wp2_with fail
   refine bodyPost_ret (results_cell_row rfl _ _ (w.heap.size+1) A1v (IN.cells _).toArray (0,0) _ rfl (setRow_heap _ _ _ _ _ _ HZ.out) Tryz.underlying54 rfl A0p) rfl ?_;rw[HV2.out]
   exact HI2.out.done H.out _
  have e20:((r.op:Int)==20)=false:=by rw[beq_eq_false_iff_ne];omega
  replace HVV:=hzz (HVV.out.trans (if_neg o20));replace HCC:=hzz (HCC.out.trans (if_neg o20));clear HCON o20
  have HMB:=hzz (fun t fis p hen hp=>C5h w1 g a n cap K er (w.heap.size+1+1) (A4b r) r.a t fis p hen hp HI1.out.k);by_cases o178:r.op=178
  ·have e178:((r.op:Int)==178)=true:=by rw[o178];rfl
   have hM:A7j r.op=true:=by rw[o178];rfl
   have HV2:=hzz (HVV.out.trans (if_pos hM));have HC2:=hzz (HCC.out.trans (if_pos hM));obtain rfl:C=B9b typeB K r.a 9:=HC2.out
   have HM2:=hzz (HMB.out 9 23 typeB (fun _ _=>rfl) (fun W s hs hv=>A3n W s hs hv));clear hM HVV HCC HC2 HMB f1 f2 f3 o178
   go_wp2_with fail
   refine HM2.out.mono ?_;rintro e w2 ⟨rfl,hI2,k2⟩;have HI2:=hzz (HI1.out.call hI2 k2 (A1i (by decide)) hgl);clear hI2 k2 HM2 HI1 q2 q3 q1
   go_upto_region 23 with fail
   obtain⟨z,hz⟩:=HI2.out.zero;have HZ:=hzz hz;clear hz;refine wp_region_lit ?_;refine A0i rfl _ _ rfl _ rfl _ _ _ _ HI2.out.k.i Tryz.underlying54 rfl A0p ?_
   refine wpList_store_row rfl _ _ _ rfl _ _ rfl rfl _ _ HZ.out A0p rfl (A9f _) ?_
   go_wp2_with fail
   refine bodyPost_ret (results_cell_row rfl _ _ (w.heap.size+1) A1v (IN.cells _).toArray (0,0) _ rfl (setRow_heap _ _ _ _ _ _ HZ.out) Tryz.underlying54 rfl A0p) rfl ?_;rw[HV2.out]
   exact HI2.out.done H.out _
  have e178:((r.op:Int)==178)=false:=by rw[beq_eq_false_iff_ne];omega
  by_cases o179:r.op=179
  ·have e179:((r.op:Int)==179)=true:=by rw[o179];rfl
   have hM:A7j r.op=true:=by rw[o179];rfl
   have HV2:=hzz (HVV.out.trans (if_pos hM));have HC2:=hzz (HCC.out.trans (if_pos hM));obtain rfl:C=B9b typeB K r.a 9:=HC2.out
   have HM2:=hzz (HMB.out 9 23 typeB (fun _ _=>rfl) (fun W s hs hv=>A3n W s hs hv));clear hM HVV HCC HC2 HMB f1 f2 f3 o178 o179
   go_wp2_with fail
   refine HM2.out.mono ?_;rintro e w2 ⟨rfl,hI2,k2⟩;have HI2:=hzz (HI1.out.call hI2 k2 (A1i (by decide)) hgl);clear hI2 k2 HM2 HI1 q2 q3 q1
   go_upto_region 23 with fail
   obtain⟨z,hz⟩:=HI2.out.zero;have HZ:=hzz hz;clear hz;refine wp_region_lit ?_;refine A0i rfl _ _ rfl _ rfl _ _ _ _ HI2.out.k.i Tryz.underlying54 rfl A0p ?_
   refine wpList_store_row rfl _ _ _ rfl _ _ rfl rfl _ _ HZ.out A0p rfl (A9f _) ?_
   go_wp2_with fail
   refine bodyPost_ret (results_cell_row rfl _ _ (w.heap.size+1) A1v (IN.cells _).toArray (0,0) _ rfl (setRow_heap _ _ _ _ _ _ HZ.out) Tryz.underlying54 rfl A0p) rfl ?_;rw[HV2.out]
   exact HI2.out.done H.out _
  have e179:((r.op:Int)==179)=false:=by rw[beq_eq_false_iff_ne];omega
  by_cases o180:r.op=180
  ·have e180:((r.op:Int)==180)=true:=by rw[o180];rfl
   have hM:A7j r.op=true:=by rw[o180];rfl
   have HV2:=hzz (HVV.out.trans (if_pos hM));have HC2:=hzz (HCC.out.trans (if_pos hM));obtain rfl:C=B9b typeB K r.a 9:=HC2.out
   have HM2:=hzz (HMB.out 9 23 typeB (fun _ _=>rfl) (fun W s hs hv=>A3n W s hs hv));clear hM HVV HCC HC2 HMB f1 f2 f3 o178 o179 o180
   go_wp2_with fail
   refine HM2.out.mono ?_;rintro e w2 ⟨rfl,hI2,k2⟩;have HI2:=hzz (HI1.out.call hI2 k2 (A1i (by decide)) hgl);clear hI2 k2 HM2 HI1 q2 q3 q1
   go_upto_region 23 with fail
   obtain⟨z,hz⟩:=HI2.out.zero;have HZ:=hzz hz;clear hz;refine wp_region_lit ?_;refine A0i rfl _ _ rfl _ rfl _ _ _ _ HI2.out.k.i Tryz.underlying54 rfl A0p ?_
   refine wpList_store_row rfl _ _ _ rfl _ _ rfl rfl _ _ HZ.out A0p rfl (A9f _) ?_
   go_wp2_with fail
   refine bodyPost_ret (results_cell_row rfl _ _ (w.heap.size+1) A1v (IN.cells _).toArray (0,0) _ rfl (setRow_heap _ _ _ _ _ _ HZ.out) Tryz.underlying54 rfl A0p) rfl ?_;rw[HV2.out]
   exact HI2.out.done H.out _
  have e180:((r.op:Int)==180)=false:=by rw[beq_eq_false_iff_ne];omega
  by_cases o181:r.op=181
  ·have e181:((r.op:Int)==181)=true:=by rw[o181];rfl
   have hM:A7j r.op=true:=by rw[o181];rfl
   have HV2:=hzz (HVV.out.trans (if_pos hM));have HC2:=hzz (HCC.out.trans (if_pos hM));obtain rfl:C=B9b typeB K r.a 9:=HC2.out
   have HM2:=hzz (HMB.out 9 23 typeB (fun _ _=>rfl) (fun W s hs hv=>A3n W s hs hv));clear hM HVV HCC HC2 HMB f1 f2 f3 o178 o179 o180 o181
   go_wp2_with fail
   refine HM2.out.mono ?_;rintro e w2 ⟨rfl,hI2,k2⟩;have HI2:=hzz (HI1.out.call hI2 k2 (A1i (by decide)) hgl);clear hI2 k2 HM2 HI1 q2 q3 q1
   go_upto_region 23 with fail
   obtain⟨z,hz⟩:=HI2.out.zero;have HZ:=hzz hz;clear hz;refine wp_region_lit ?_;refine A0i rfl _ _ rfl _ rfl _ _ _ _ HI2.out.k.i Tryz.underlying54 rfl A0p ?_
   refine wpList_store_row rfl _ _ _ rfl _ _ rfl rfl _ _ HZ.out A0p rfl (A9f _) ?_
   go_wp2_with fail
   refine bodyPost_ret (results_cell_row rfl _ _ (w.heap.size+1) A1v (IN.cells _).toArray (0,0) _ rfl (setRow_heap _ _ _ _ _ _ HZ.out) Tryz.underlying54 rfl A0p) rfl ?_;rw[HV2.out]
   exact HI2.out.done H.out _
  have e181:((r.op:Int)==181)=false:=by rw[beq_eq_false_iff_ne];omega
  have hM:A7j r.op=false:=by simp[A7j,o178,o179,o180,o181]
  replace HVV:=hzz (HVV.out.trans (if_neg (by rw[hM];decide)));replace HCC:=hzz (HCC.out.trans (if_neg (by rw[hM];decide)));clear hM o178 o179 o180 o181;by_cases o182:r.op=182
  ·have e182:((r.op:Int)==182)=true:=by rw[o182];rfl
   have hM:A9w r.op=true:=by rw[o182];rfl
   have HV2:=hzz (HVV.out.trans (if_pos hM));have HC2:=hzz (HCC.out.trans (if_pos hM));obtain rfl:C=B9b A3k K r.a 10:=HC2.out
   have HM2:=hzz (HMB.out 10 52 A3k (fun _ _=>rfl) (fun W s hs hv=>A5p W s hs hv));clear hM HVV HCC HC2 HMB f1 f2 f3 o182
   go_wp2_with fail
   refine HM2.out.mono ?_;rintro e w2 ⟨rfl,hI2,k2⟩;have HI2:=hzz (HI1.out.call hI2 k2 (A1i (by decide)) hgl);clear hI2 k2 HM2 HI1 q2 q3 q1
   go_upto_region 23 with fail
   obtain⟨z,hz⟩:=HI2.out.zero;have HZ:=hzz hz;clear hz;refine wp_region_lit ?_;refine A0i rfl _ _ rfl _ rfl _ _ _ _ HI2.out.k.i Tryz.underlying54 rfl A0p ?_
   refine wpList_store_row rfl _ _ _ rfl _ _ rfl rfl _ _ HZ.out A0p rfl (A9f _) ?_
   go_wp2_with fail
   refine bodyPost_ret (results_cell_row rfl _ _ (w.heap.size+1) A1v (IN.cells _).toArray (0,0) _ rfl (setRow_heap _ _ _ _ _ _ HZ.out) Tryz.underlying54 rfl A0p) rfl ?_;rw[HV2.out]
   exact HI2.out.done H.out _
  have e182:((r.op:Int)==182)=false:=by rw[beq_eq_false_iff_ne];omega
  by_cases o184:r.op=184
  ·have e184:((r.op:Int)==184)=true:=by rw[o184];rfl
   have hM:A9w r.op=true:=by rw[o184];rfl
   have HV2:=hzz (HVV.out.trans (if_pos hM));have HC2:=hzz (HCC.out.trans (if_pos hM));obtain rfl:C=B9b A3k K r.a 10:=HC2.out
   have HM2:=hzz (HMB.out 10 52 A3k (fun _ _=>rfl) (fun W s hs hv=>A5p W s hs hv));clear hM HVV HCC HC2 HMB f1 f2 f3 o182 o184
   go_wp2_with fail
   refine HM2.out.mono ?_;rintro e w2 ⟨rfl,hI2,k2⟩;have HI2:=hzz (HI1.out.call hI2 k2 (A1i (by decide)) hgl);clear hI2 k2 HM2 HI1 q2 q3 q1
   go_upto_region 23 with fail
   obtain⟨z,hz⟩:=HI2.out.zero;have HZ:=hzz hz;clear hz;refine wp_region_lit ?_;refine A0i rfl _ _ rfl _ rfl _ _ _ _ HI2.out.k.i Tryz.underlying54 rfl A0p ?_
   refine wpList_store_row rfl _ _ _ rfl _ _ rfl rfl _ _ HZ.out A0p rfl (A9f _) ?_
   go_wp2_with fail
   refine bodyPost_ret (results_cell_row rfl _ _ (w.heap.size+1) A1v (IN.cells _).toArray (0,0) _ rfl (setRow_heap _ _ _ _ _ _ HZ.out) Tryz.underlying54 rfl A0p) rfl ?_;rw[HV2.out]
   exact HI2.out.done H.out _
  have e184:((r.op:Int)==184)=false:=by rw[beq_eq_false_iff_ne];omega
  have hM:A9w r.op=false:=by simp[A9w,o182,o184]
  replace HVV:=hzz (HVV.out.trans (if_neg (by rw[hM];decide)));replace HCC:=hzz (HCC.out.trans (if_neg (by rw[hM];decide)));clear hM o182 o184
  have e187:((r.op:Int) !=187)=decide (r.op≠187):=by
   rw[Bool.eq_iff_iff];simp;omega
  have HCL:=hzz (A8k w1 g a n cap K er r.a (decide (r.op≠187)) HI1.out.k.k);obtain rfl:C=aclsB K r.a (decide (r.op≠187)):=HCC.out;generalize decide (r.op≠187)=dc at*;clear HCC HMB f1 f2 f3
  go_wp2_with fail
  refine HCL.out.mono ?_;rintro e w2 ⟨rfl,hI2,k2⟩;have HI2:=hzz (HI1.out.calln hI2 k2 (A1i (by decide)) hgl);have f3:=HI2.out.k.i.box.f3;have c3:=HI2.out.k.i.box.c3;clear hI2 k2 HCL HI1 q2 q3 q1
  go_upto_region 23 with fail
  have HI3:=hzz (HI2.out.put 3 _ (HI2.out.k.i.set3 (A0s K r.a).1));obtain⟨z,hz⟩:=HI3.out.zero;have HZ:=hzz hz;clear hz;refine wp_region_lit ?_
  refine A0i rfl _ _ rfl _ rfl _ _ _ _ HI3.out.k.i Tryz.underlying54 rfl A0p ?_;refine wpList_store_row rfl _ _ _ rfl _ _ rfl rfl _ _ HZ.out A0p rfl (A9f _) ?_
  go_wp2_with fail
  refine bodyPost_ret (results_cell_row rfl _ _ (w.heap.size+1) A1v (IN.cells _).toArray (0,0) _ rfl (setRow_heap _ _ _ _ _ _ HZ.out) Tryz.underlying54 rfl A0p) rfl ?_;rw[HVV.out]
  exact HI3.out.done H.out _
 have e5:((f:Int)==5)=false:=by rw[beq_eq_false_iff_ne];omega
 have e6:((f:Int)==6)=false:=by rw[beq_eq_false_iff_ne];omega
 replace HVV:=hzz (HVV.out.trans ((if_neg (show ¬f=5 by omega)).trans (if_neg (show ¬f=6 by omega))))
 replace HCC:=hzz (HCC.out.trans ((if_neg (show ¬f=5 by omega)).trans (if_neg (show ¬f=6 by omega))));obtain rfl:C=true:=HCC.out;clear f7 f8 f5 HCC HHC HP1
 go_upto_region 23 with fail
 have HI2:=hzz (HI1.out.put 1 _ (HI1.out.k.i.set1 r.a));obtain⟨z,hz⟩:=HI2.out.zero;have HZ:=hzz hz;clear hz;refine wp_region_lit ?_
 refine A0i rfl _ _ rfl _ rfl _ _ _ _ HI2.out.k.i Tryz.underlying54 rfl A0p ?_;refine wpList_store_row rfl _ _ _ rfl _ _ rfl rfl _ _ HZ.out A0p rfl (A9f _) ?_
 go_wp2_with fail
 refine bodyPost_ret (results_cell_row rfl _ _ (w.heap.size+1) A1v (IN.cells _).toArray (0,0) _ rfl (setRow_heap _ _ _ _ _ _ HZ.out) Tryz.underlying54 rfl A0p) rfl ?_;rw[HVV.out];exact HI2.out.done H.out _
structure UT where
 fr:Int
 tt:Int
 pl:Int
 cl:List UInt8
def UT.cells(t:UT):List Value:=[.int .i64 t.fr,.int .i64 t.tt,.int .i64 t.pl,.string ⟨t.cl.toArray⟩]
theorem UT.cells_length(t:UT):t.cells.length=4:=rfl
structure UP where
 pl:Int
 la:Option Addr
 ln:Nat
 lc:Nat
 loc:List (List UInt8)
 sa:Option Addr
 sn:Nat
 sc:Nat
 stk:List (List UInt8)
def UP.cells(p:UP):List Value:=[.int .i64 p.pl,.slice p.la p.ln p.lc,.slice p.sa p.sn p.sc]
theorem UP.cells_length(p:UP):p.cells.length=3:=rfl
def UP.p(p:UP):UP:=⟨p.pl,none,0,0,p.loc,none,0,0,p.stk⟩
structure UP.Rd(p:UP)(w:World):Prop where
 loc:Sl A6r w p.la p.ln p.loc
 stk:Sl A6r w p.sa p.sn p.stk
theorem UP.Rd.below{p:UP}{w w':World}(h:p.Rd w)(hb:Below w.heap.size w w'):p.Rd w':=⟨h.loc.below hb,h.stk.below hb⟩
structure UP.Own(p:UP)(w:World)(B:Nat):Prop where
 loc:w.ownsRow B 9 1 (.slice p.la p.ln p.lc) p.ln (p.loc.map A6r)
 stk:w.ownsRow B 9 1 (.slice p.sa p.sn p.sc) p.sn (p.stk.map A6r)
theorem UP.Own.mono{p:UP}{w:World}{B B':Nat}(h:p.Own w B)(hB:B'<=B):p.Own w B':=⟨A2r h.loc hB,A2r h.stk hB⟩
theorem UP.Own.keepP{p:UP}{q:Nat->Prop}{w w':World}{B:Nat}(h:p.Own w B)(k:A0j q w w')(hq:∀x,q x->x<B\/w.heap.size<=x):p.Own w' B:=⟨A4j h.loc k hq,A4j h.stk k hq⟩
theorem UP.Own.keptT{p:UP}{w w':World}{B:Nat}{e:TypeId}(h:p.Own w B)(k:A3a e w w')(hne:9≠e):p.Own w' B:=⟨A1a h.loc k hne,A1a h.stk k hne⟩
theorem UP.Own.rd{p:UP}{w:World}{B:Nat}(h:p.Own w B):p.Rd w:=by
 obtain⟨a,c,e,hs,_⟩:=Sl.ofOwn h.loc;obtain⟨a',c',e',hs',_⟩:=Sl.ofOwn h.stk
 cases e
 cases e'
 exact⟨hs,hs'⟩
structure UM where
 st:Bool
 nm:List UInt8
 ds:List UInt8
 sk:Int
 lo:Int
 ca:Option Addr
 cn:Nat
 cc:Nat
 code:List IN
 ta:Option Addr
 tn:Nat
 tc:Nat
 traps:List UT
 ma:Option Addr
 mn:Nat
 mc:Nat
 maps:List UP
def UM.cells(m:UM):List Value:=[.bool m.st,.string ⟨m.nm.toArray⟩,.string ⟨m.ds.toArray⟩,.int .i64 m.sk,.int .i64 m.lo,.slice m.ca m.cn m.cc,.slice m.ta m.tn m.tc,.slice m.ma m.mn m.mc]
theorem UM.cells_length(m:UM):m.cells.length=8:=rfl
def UM.p(m:UM):UM:=⟨m.st,m.nm,m.ds,m.sk,m.lo,none,0,0,m.code,none,0,0,m.traps,none,0,0,m.maps.map UP.p⟩
structure UM.Rd(m:UM)(w:World):Prop where
 code:Ss 7 IN.cells w m.ca m.cn m.code
 traps:Ss 4 UT.cells w m.ta m.tn m.traps
 maps:Ss 3 UP.cells w m.ma m.mn m.maps
 each:∀p∈m.maps,p.Rd w
theorem UM.Rd.below{m:UM}{w w':World}(h:m.Rd w)(hb:Below w.heap.size w w'):m.Rd w':=⟨h.code.below hb,h.traps.below hb,h.maps.below hb,fun p hp=>(h.each p hp).below hb⟩
structure UM.Own(m:UM)(w:World)(B:Nat):Prop where
 code:w.ownsRow B 54 7 (.slice m.ca m.cn m.cc) m.cn (m.code.flatMap IN.cells)
 traps:w.ownsRow B 85 4 (.slice m.ta m.tn m.tc) m.tn (m.traps.flatMap UT.cells)
 maps:w.ownsRow B 88 3 (.slice m.ma m.mn m.mc) m.mn (m.maps.flatMap UP.cells)
 each:∀p∈m.maps,p.Own w B
theorem UM.Own.mono{m:UM}{w:World}{B B':Nat}(h:m.Own w B)(hB:B'<=B):m.Own w B':=⟨A2r h.code hB,A2r h.traps hB,A2r h.maps hB,fun p hp=>(h.each p hp).mono hB⟩
theorem UM.Own.keepP{m:UM}{q:Nat->Prop}{w w':World}{B:Nat}(h:m.Own w B)(k:A0j q w w')(hq:∀x,q x->x<B\/w.heap.size<=x):m.Own w' B:=⟨A4j h.code k hq,A4j h.traps k hq,A4j h.maps k hq,fun p hp=>(h.each p hp).keepP k hq⟩
theorem UM.Own.keptT{m:UM}{w w':World}{B:Nat}{e:TypeId}(h:m.Own w B)(k:A3a e w w')(h1:54≠e)(h2:85≠e)(h3:88≠e)(h4:9≠e):m.Own w' B:=⟨A1a h.code k h1,A1a h.traps k h2,A1a h.maps k h3,fun p hp=>(h.each p hp).keptT k h4⟩
theorem UM.Own.rd{m:UM}{w:World}{B:Nat}(h:m.Own w B):m.Rd w:=by
 obtain⟨a,c,e,hs,_⟩:=Ss.ofOwn IN.cells_length (by decide) h.code;obtain⟨a',c',e',hs',_⟩:=Ss.ofOwn UT.cells_length (by decide) h.traps
 obtain⟨a'',c'',e'',hs'',_⟩:=Ss.ofOwn UP.cells_length (by decide) h.maps
 cases e
 cases e'
 cases e''
 exact⟨hs,hs',hs'',fun p hp=>(h.each p hp).rd⟩
structure UF where
 st:Bool
 nm:List UInt8
 ds:List UInt8
def UF.cells(f:UF):List Value:=[.bool f.st,.string ⟨f.nm.toArray⟩,.string ⟨f.ds.toArray⟩]
theorem UF.cells_length(f:UF):f.cells.length=3:=rfl
structure UU where
 nm:List UInt8
 su:List UInt8
 fa:Option Addr
 fn:Nat
 fc:Nat
 fields:List UF
 ma:Option Addr
 mn:Nat
 mc:Nat
 methods:List UM
def UU.cells(u:UU):List Value:=[.string ⟨u.nm.toArray⟩,.string ⟨u.su.toArray⟩,.slice u.fa u.fn u.fc,.slice u.ma u.mn u.mc]
def UU.p(u:UU):UU:=⟨u.nm,u.su,none,0,0,u.fields,none,0,0,u.methods.map UM.p⟩
structure UU.Rd(u:UU)(w:World):Prop where
 fields:Ss 3 UF.cells w u.fa u.fn u.fields
 methods:Ss 8 UM.cells w u.ma u.mn u.methods
 each:∀m∈u.methods,m.Rd w
theorem UU.Rd.below{u:UU}{w w':World}(h:u.Rd w)(hb:Below w.heap.size w w'):u.Rd w':=⟨h.fields.below hb,h.methods.below hb,fun m hm=>(h.each m hm).below hb⟩
structure UU.Own(u:UU)(w:World)(B:Nat):Prop where
 fields:w.ownsRow B 52 3 (.slice u.fa u.fn u.fc) u.fn (u.fields.flatMap UF.cells)
 methods:w.ownsRow B 59 8 (.slice u.ma u.mn u.mc) u.mn (u.methods.flatMap UM.cells)
 each:∀m∈u.methods,m.Own w B
theorem UU.Own.rd{u:UU}{w:World}{B:Nat}(h:u.Own w B):u.Rd w:=by
 obtain⟨a,c,e,hs,_⟩:=Ss.ofOwn UF.cells_length (by decide) h.fields;obtain⟨a',c',e',hs',_⟩:=Ss.ofOwn UM.cells_length (by decide) h.methods
 cases e
 cases e'
 exact⟨hs,hs',fun p hp=>(h.each p hp).rd⟩
theorem E0v:StE 55 54 (.agg #[.int .u8 0,.int .i64 0,.int .i64 0,.string ⟨#[]⟩,.string ⟨#[]⟩,.string ⟨#[]⟩,.string ⟨#[]⟩]) 7 88:=⟨by kernel_rfl,by kernel_rfl,rfl⟩
theorem D2b:StE 56 85 (.agg #[.int .i64 0,.int .i64 0,.int .i64 0,.string ⟨#[]⟩]) 4 40:=⟨by kernel_rfl,by kernel_rfl,rfl⟩
theorem D9z:StE 57 88 (.agg #[.int .i64 0,.slice none 0 0,.slice none 0 0]) 3 56:=⟨by kernel_rfl,by kernel_rfl,rfl⟩
theorem D3q:StE 30 59 (.agg #[.bool false,.string ⟨#[]⟩,.string ⟨#[]⟩,.int .i64 0,.int .i64 0,.slice none 0 0,.slice none 0 0,.slice none 0 0]) 8 128:=⟨by kernel_rfl,by kernel_rfl,rfl⟩
theorem D0u:StE 29 52 (.agg #[.bool false,.string ⟨#[]⟩,.string ⟨#[]⟩]) 3 40:=⟨by kernel_rfl,by kernel_rfl,rfl⟩
def A9n(K:List KV)(L:List RW)(cn:Nat)(t:KT):UT:=⟨(plV L cn t.fr false:Nat),(plV L cn t.tt true:Nat),(plV L cn t.pl false:Nat),if t.cl=0 then []else(A0s K t.cl).1⟩
def A9m(K:List KV)(L:List RW)(cn:Nat)(t:KT):Bool:=plC L cn t.fr false&&(plC L cn t.tt true&&(plC L cn t.pl false&&(decide (t.cl=0)||aclsB K t.cl false)))
def C9z(K:List KV)(L:List RW)(cn:Nat)(p:KP):UP:=⟨(plV L cn p.pl false:Nat),none,0,0,p.loc.map (A1w K),none,0,0,p.stk.map (A1w K)⟩
def C2i(K:List KV)(L:List RW)(cn:Nat)(p:KP):Bool:=plC L cn p.pl false&&(p.loc.all (A5u K)&&p.stk.all (A5u K))
def B1g(K:List KV)(m:KM):UM:=
 ⟨decide (m.fl=8),A1k K m.nm,A1k K m.ds,m.st,m.lo,none,0,0,(A1y m.code).2.map (B1a K (A1y m.code).2),none,0,0,m.traps.map (A9n K (A1y m.code).2 m.cn),none,0,0,m.maps.map (C9z K (A1y m.code).2 m.cn)⟩
def A9r(K:List KV)(m:KM):Bool:=
 (A7d (A1k K m.nm)&&A3k (A1k K m.ds))&&(decide ((A1y m.code).1=0)&&((A1y m.code).2.all (B5y K)&&(m.traps.all (A9m K (A1y m.code).2 m.cn)&&m.maps.all (C2i K (A1y m.code).2 m.cn))))
abbrev A0w:=59
structure D5w(D W:World)(gk gm gl ga gz g go:Nat)(m:KM)(la:Option Addr)(ln lc:Nat)(L:List RW)(b:Nat)(z:UM):Prop where
 s:E0d W gm gl ga gk g m la ln lc L b
 z:W.heap[gz]? =some (.cells z.cells.toArray A0w (0,0))
 rs:Rs W la ln L
 og:B1p la ln g
 oo:B1p la ln go
 d:m.Rd D
 db:Below D.heap.size D W
 dg:D.heap.size<=g
 dgo:D.heap.size<=go
 ms:gm≠go
 ls:gl≠go
 am:ga≠go
 ks:gk≠go
 zs:gz≠go
 bs:b≠go
 zg:gz≠g
 gg:g<W.heap.size
 gs:go<W.heap.size
 ne:go≠g
abbrev GG(g go:Nat):Nat->Prop:=fun k=>k=g\/k=go
section
variable {D W w:World} {gk gm gl ga gz g go:Nat} {m:KM} {la:Option Addr} {ln lc:Nat} {L:List RW} {b:Nat} {z:UM}
theorem D5w.see(h:D5w D W gk gm gl ga gz g go m la ln lc L b z)(k:A0j (GG g go) W w):E0d w gm gl ga gk g m la ln lc L b:=by
 have key:∀(x:Nat) (o:Obj),W.heap[x]? =some o->x≠g->x≠go->¬GG g go x:=fun x o _ h1 h2 hp=>by
  rcases hp with h3|h3
  ·exact h1 h3
  exact h2 h3
 refine⟨k.row h.s.m (key _ _ h.s.m h.s.nm h.ms),k.row h.s.l (key _ _ h.s.l h.s.nl h.ls),k.row h.s.a (key _ _ h.s.a h.s.na h.am),k.row h.s.k (key _ _ h.s.k h.s.nk h.ks),?_,h.s.len,h.s.nm,h.s.nl,h.s.na,h.s.nk,h.s.nb⟩
 obtain⟨es,clock,hb,_⟩:=h.s.p;exact h.s.p.keep k (key _ _ hb h.s.nb h.bs)
theorem D5w.zw(h:D5w D W gk gm gl ga gz g go m la ln lc L b z)(k:A0j (GG g go) W w):w.heap[gz]? =some (.cells z.cells.toArray A0w (0,0)):=
 k.row h.z (fun hp=>by rcases hp with h3|h3;exact h.zg h3;exact h.zs h3)
theorem D5w.rsw(h:D5w D W gk gm gl ga gz g go m la ln lc L b z)(k:A0j (GG g go) W w):Rs w la ln L:=
 k.ss h.rs (fun hn b off e hp=>by rcases hp with h3|h3;exact h.og hn b off e h3;exact h.oo hn b off e h3)
theorem D5w.rd(h:D5w D W gk gm gl ga gz g go m la ln lc L b z)(k:A0j (GG g go) W w):m.Rd w:=
 h.d.below (k.below h.db nlz (fun x hx=>by rcases hx with rfl|rfl;exact h.dg;exact h.dgo))
end
structure B9p(W w:World)(g go:Nat)(a:Option Addr)(n cap:Nat)(K:List KV)(er:Int)(x:UM):Prop where
 l:LfS w g a n cap K er
 k:A0j (GG g go) W w
 o:w.heap[go]? =some (.cells x.cells.toArray A0w (0,0))
 w:x.Own w W.heap.size
section
variable {W w w9:World} {g go:Nat} {a:Option Addr} {n cap:Nat} {K:List KV} {er er':Int} {x:UM}
theorem B9p.below(h:B9p W w g go a n cap K er x)(hb:Below w.heap.size w w9):B9p W w9 g go a n cap K er x:=
 ⟨h.l.below hb,h.k.trans (A0j.of hb),A0c h.o hb,h.w.keepP (A0j.of (p:=fun _=>False) hb) (fun _ hx=>hx.elim)⟩
theorem B9p.call(h:B9p W w g go a n cap K er x)(hl:LfS w9 g a n cap K er')(hk:A0j (fun k=>k=g) w w9)(hg:g<W.heap.size)(hne:go≠g):B9p W w9 g go a n cap K er' x:=
 ⟨hl,h.k.trans (hk.weak fun _ _ e=> .inl e),hk.row h.o hne,h.w.keepP hk (fun y hy=> .inl (by rw[hy];exact hg))⟩
theorem B9p.new(h:B9p W w g go a n cap K er x)(hl:LfS w9 g a n cap K er')(hk:A0j (fun k=>k=g\/w.heap.size<=k) w w9)(hg:g<W.heap.size)(hne:go≠g):B9p W w9 g go a n cap K er' x:=
 ⟨hl,h.k.trans (hk.weak fun k hk e=>by rcases e with e|e;exact .inl e;have:=h.k.size;omega),hk.row h.o (fun e=>by rcases e with e|e;exact hne e;have:=A0v h.o;omega),h.w.keepP hk (fun y hy=>by rcases hy with hy|hy;exact .inl (by rw[hy];exact hg);exact .inr hy)⟩
theorem B9p.app{e:TypeId}(h0:LfS W g a n cap K er')(h:B9p W w g go a n cap K er x)(hB:A0j (fun k=>W.heap.size<=k) w w9)(ht:A3a e w w9)(hme:A0w≠e)(o:Nat)(v:Value)(x':UM)
  (hc:x'.cells.toArray=x.cells.toArray.setIfInBounds o v) (hgo:go<W.heap.size) (hne:go≠g)
  (hw:x'.Own w9 W.heap.size) (hg0:0<go) (hoff:B1p a n go):B9p W (w9.setCell ⟨go,o,none⟩ v) g go a n cap K er x':=by
 have hl9:LfS w9 g a n cap K er:=h0.newer h.l nlz hB;have hk9:A0j (GG g go) W w9:=h.k.new hB
 have hs:A0j (fun k=>k=go) w9 (w9.setCell ⟨go,o,none⟩ v):=A0j.set (A0j.refl (fun k=>k=go) w9) (.inl rfl) o v;have ho9:=ht.2 _ _ _ _ h.o hme
 refine⟨hl9.keep hs (fun e=>hne e.symm) (fun e=>by omega) (fun hn b off e e2=>hoff hn b off e e2),hk9.trans (hs.weak fun _ _ e=> .inr e),?_,hw.keepP hs (fun y hy=> .inl (by rw[hy];exact hgo))⟩
 have:=A1e ho9 o v;rw[hc];exact this
theorem _root_.Go.Proofs.YtclpkipaehpkdaaGreatDoor.LfS.app9{e:TypeId}{x':UM}(h0:LfS W g a n cap K er')(h:B9p W w g go a n cap K er x)(hB:A0j (fun k=>W.heap.size<=k) w w9)(ht:A3a e w w9)(hw:x'.Own w9 W.heap.size)(hgo:go<W.heap.size)(hne:go≠g)(hg0:0<go)(hoff:B1p a n go)(hme:A0w≠e:=by decide):
  A0j (GG g go) W w9/\w9.heap[go]? =some (.cells x.cells.toArray A0w (0,0))/\∀(o:Nat) (v:Value),x'.cells.toArray=x.cells.toArray.setIfInBounds o v->B9p W (w9.setCell ⟨go,o,none⟩ v) g go a n cap K er x':=
 ⟨h.k.new hB,ht.2 _ _ _ _ h.o hme,fun o v hc=>B9p.app h0 h hB ht hme o v x' hc hgo hne hw hg0 hoff⟩
end
def eqK(c k:KV):Bool:=decide (k.tag=c.tag/\k.a=c.a/\k.b=c.b/\k.n=c.n/\k.s=c.s)
theorem A9v{c k:KV}:eqK c k=true↔k=c:=by
 unfold eqK;rw[decide_eq_true_iff];obtain⟨a1,a2,a3,a4,a5⟩:=k;obtain⟨b1,b2,b3,b4,b5⟩:=c;simp[KV.mk.injEq]
def B8f(l:List KV)(c:KV):Option Nat:=l.findIdx? (eqK c)
def A7z(l:List KV)(c:KV):List KV:=(l++[c])++(if c.tag=5 then [kz]else [])
structure LW where
 l:List KV
 e:Int
def LW.need(s:LW)(ok:Bool)(k:Int):LW:=⟨s.l,A2t s.e ok k⟩
def LW.put(s:LW)(c:KV):LW×Nat:=match B8f s.l c with
 |some i=>(s,i)
 |none=>((⟨A7z s.l c,s.e⟩:LW).need (decide ((A7z s.l c).length<=1024)) 9,s.l.length)
def LW.text(s:LW)(t:List UInt8):LW×Nat:=s.put ⟨1,0,0,0,t⟩
def LW.cls(s:LW)(t:List UInt8)(arr:Bool):LW×Nat:=
 (((s.need (classB t||(arr&&A2m t)) 8).text t).1).put ⟨7,(((s.need (classB t||(arr&&A2m t)) 8).text t).2:Nat),0,0,[]⟩
def LW.member(s:LW)(x:IN)(tag:Int)(p:List UInt8->Bool):LW×Nat:=
 let c:=(s.need (A7d x.nm&&p x.ds) 8).cls x.cl false
 let n:=c.1.text x.nm
 let d:=n.1.text x.ds
 let b:=d.1.put ⟨12,(n.2:Nat),(d.2:Nat),0,[]⟩
 b.1.put ⟨tag,(c.2:Nat),(b.2:Nat),0,[]⟩
def A7f(n:Int):Bool:=decide (-2147483648<=n/\n<=2147483647)
def LW.con(s:LW)(x:IN):LW×Nat:=
 if x.ds=[73]/\x.op=18/\x.tx=[]then(s.need (A7f x.n) 8).put ⟨3,0,0,x.n,[]⟩
 else if x.ds=[83]/\x.op=18/\x.n=0 then((s.text x.tx).1).put ⟨8,((s.text x.tx).2:Nat),0,0,[]⟩
 else if x.ds=[74]/\x.op=20/\x.tx=[]then s.put ⟨5,0,0,x.n,[]⟩
 else(s.need false 8,0)
def B6g(x:IN):Bool:=decide ((x.m=0\/A0q x.op=8)/\x.cl=[]/\x.nm=[]/\x.ds=[]/\x.tx=[])
def A4v(x:IN):Bool:=decide (x.n=0/\x.m=0/\x.tx=[])
def B6q(x:IN):Bool:=decide (x.n=0/\x.m=0/\x.nm=[]/\x.ds=[]/\x.tx=[])
def LW.wide(s:LW)(x:IN):LW×Nat:=
 if A7j x.op then(s.need (A4v x) 8).member x 9 typeB
 else if A9w x.op then(s.need (A4v x) 8).member x 10 A3k
 else(s.need (B6q x) 8).cls x.cl (decide (x.op≠187))
def A3v(n:Int):Int:=(n+2147483648)%4294967296-2147483648
def LW.small(s:LW)(n:Int):LW×Int:=(s.need (A7f n) 8,A3v n)
def LW.raw(s:LW)(p:Nat)(x:IN):LW×RW:=
 if x.op=18\/x.op=20 then
  let c:=(s.need (decide (x.cl=[]/\x.nm=[]/\x.m=0)) 8).con x
  (c.1.need (decide (A0q x.op≠5)||decide (c.2<=255)) 9,⟨p,x.op,(c.2:Nat),0⟩)
 else if A0q x.op=6 then((s.wide x).1,⟨p,x.op,((s.wide x).2:Nat),0⟩)
 else if A0q x.op=0 then(s.need false 8,⟨p,x.op,0,0⟩)
 else(((s.need (B6g x) 8).small x.n).1,⟨p,x.op,A3v x.n,x.m⟩)
def C2f(x:IN):Nat:=A1r (A0q x.op)
def LW.raws(s:LW)(p:Nat):List IN->LW×List RW
 |[]=>(s,[])
 |x::l=>(((s.raw p x).1.raws (p+C2f x) l).1,(s.raw p x).2::((s.raw p x).1.raws (p+C2f x) l).2)
def A5x(l:List IN)(n:Nat):Nat:=((l.take n).map C2f).sum
def inB(l:List IN)(n:Int):Bool:=decide (0<=n/\n<l.length)
def A4g(l:List IN)(x:IN)(r:RW):RW:=if A0q x.op=7/\inB l x.n=true then{r with a:=(A5x l x.n.toNat:Nat)}else r
def LW.goes(s:LW)(l:List IN):List IN->LW
 |[]=>s
 |x::k=>(if A0q x.op=7 then s.need (inB l x.n) 2 else s).goes l k
def A8s(l:List IN)(rs:List RW):List RW:=(l.zip rs).map fun p=>A4g l p.1 p.2
def LW.code(s:LW)(l:List IN):LW×List UInt8:=
 let c:=s.raws 0 l
 let e:=A2f (A8s l c.2)
 ((c.1.goes l l).need (decide (e.1=0)) e.1,e.2)
def LW.slot(s:LW)(t:List UInt8):LW×KS:=
 if t=[84]then(s,⟨0,0⟩)else if t=[73]then(s,⟨1,0⟩)else if t=[74]then(s,⟨4,0⟩)else if t=[78]then(s,⟨5,0⟩)
 else if B5v t then((s.cls (C6f t) false).1,⟨7,((s.cls (C6f t) false).2:Nat)⟩)
 else(((s.need (A2m t) 8).cls t true).1,⟨7,(((s.need (A2m t) 8).cls t true).2:Nat)⟩)
def LW.slots(s:LW):List (List UInt8)->LW×List KS
 |[]=>(s,[])
 |t::l=>(((s.slot t).1.slots l).1,(s.slot t).2::((s.slot t).1.slots l).2)
def A2w(st:Bool):Int:=if st then 8 else 0
def LW.place(s:LW)(l:List IN)(n most:Int):LW×Int:=if n<0\/most<n then(s.need false 2,0)else(s,(A5x l n.toNat:Nat))
def LW.trap(s:LW)(l:List IN)(t:UT):LW×KT:=
 let a:=s.place l t.fr (l.length-1)
 let b:=a.1.place l t.tt l.length
 let c:=b.1.place l t.pl (l.length-1)
 if t.cl=[]then(c.1,⟨a.2,b.2,c.2,0⟩)else((c.1.cls t.cl false).1,⟨a.2,b.2,c.2,((c.1.cls t.cl false).2:Nat)⟩)
def LW.traps(s:LW)(l:List IN):List UT->LW×List KT
 |[]=>(s,[])
 |t::k=>(((s.trap l t).1.traps l k).1,(s.trap l t).2::((s.trap l t).1.traps l k).2)
def LW.map(s:LW)(l:List IN)(m:UP):LW×KP:=
 let a:=s.place l m.pl (l.length-1)
 let b:=a.1.slots m.loc
 let c:=b.1.slots m.stk
 (c.1,⟨a.2,none,0,0,b.2,none,0,0,c.2⟩)
def LW.maps(s:LW)(l:List IN):List UP->LW×List KP
 |[]=>(s,[])
 |t::k=>(((s.map l t).1.maps l k).1,(s.map l t).2::((s.map l t).1.maps l k).2)
def LW.method(s:LW)(m:UM):LW×KM:=
 let n:=(s.need (A7d m.nm&&A3k m.ds) 8).text m.nm
 let d:=n.1.text m.ds
 let c:=(d.1.text A7n).1
 let c2:=if m.maps=[]then c else(c.text B6s).1
 let k:=c2.code m.code
 let t:=k.1.traps m.code m.traps
 let p:=t.1.maps m.code m.maps
 (p.1,⟨A2w m.st,(n.2:Nat),(d.2:Nat),m.sk,m.lo,none,0,0,k.2,none,0,0,t.2,none,0,0,p.2⟩)
def LW.methods(s:LW):List UM->LW×List KM
 |[]=>(s,[])
 |t::k=>(((s.method t).1.methods k).1,(s.method t).2::((s.method t).1.methods k).2)
def LW.field(s:LW)(f:UF):LW×KD:=
 let n:=(s.need (A7d f.nm&&typeB f.ds) 8).text f.nm
 let d:=n.1.text f.ds
 (d.1,⟨A2w f.st,(n.2:Nat),(d.2:Nat)⟩)
def LW.fields(s:LW):List UF->LW×List KD
 |[]=>(s,[])
 |t::k=>(((s.field t).1.fields k).1,(s.field t).2::((s.field t).1.fields k).2)
def LW.consts1(s:LW):List IN->LW
 |[]=>s
 |x::l=>(if x.op=18 then(s.con x).1 else s).consts1 l
def LW.consts(s:LW):List UM->LW
 |[]=>s
 |m::l=>(s.consts1 m.code).consts l
def B1c(u:UU):LW×KF:=
 let s:=(⟨[kz],0⟩:LW).consts u.methods
 let t:=s.cls u.nm false
 let p:=if u.su=[]then(t.1,0)else t.1.cls u.su false
 let f:=p.1.fields u.fields
 let m:=f.1.methods u.methods
 (m.1,⟨none,0,0,m.1.l,(t.2:Nat),(p.2:Nat),none,0,0,f.2,none,0,0,m.2⟩)
def C2h(u:UU):Int:=if(B1c u).1.e=0 then(if A2q (B1c u).2 then 0 else 8)else(B1c u).1.e
theorem D0a(l:List KV)(c:KV):(A7z l c).length<=l.length+2:=by
 unfold A7z;split<;>simp
theorem D0b(l:List KV)(c:KV):l<+:A7z l c:=by
 unfold A7z;rw[List.append_assoc];exact List.prefix_append _ _
theorem A8r(s:LW)(c:KV):(s.put c).1.l.length<=s.l.length+2:=by
 unfold LW.put;split
 ·simp
 exact D0a _ _
theorem E0r(s:LW)(c:KV):s.l<+:(s.put c).1.l:=by
 unfold LW.put;split
 ·exact List.prefix_refl _
 exact D0b _ _
theorem D0w{l:List KV}{c:KV}{i:Nat}(h:B8f l c=some i):i<l.length:=(List.findIdx?_eq_some_iff_getElem.1 h).1
theorem A9t(s:LW)(c:KV):(s.put c).2<(s.put c).1.l.length:=by
 unfold LW.put;split
 ·next h=>exact D0w h
 show s.l.length<(A7z s.l c).length;unfold A7z;simp
theorem B4b(s:LW)(c:KV):(s.put c).2<=s.l.length:=by
 unfold LW.put;split
 ·next h=>exact Nat.le_of_lt (D0w h)
 exact Nat.le_refl _
theorem A2p(s:LW)(t:List UInt8):(s.text t).1.l.length<=s.l.length+2:=A8r _ _
theorem A7y(s:LW)(t:List UInt8)(arr:Bool):(s.cls t arr).1.l.length<=s.l.length+4:=by
 unfold LW.cls;have h1:=A2p (s.need (classB t||(arr&&A2m t)) 8) t
 have h2:=A8r ((s.need (classB t||(arr&&A2m t)) 8).text t).1 ⟨7,(((s.need (classB t||(arr&&A2m t)) 8).text t).2:Nat),0,0,[]⟩
 have h3:(s.need (classB t||(arr&&A2m t)) 8).l=s.l:=rfl;rw[h3]at h1;omega
theorem B7e(s:LW)(x:IN)(tag:Int)(p:List UInt8->Bool):(s.member x tag p).1.l.length<=s.l.length+12:=by
 unfold LW.member;dsimp only;have h0:(s.need (A7d x.nm&&p x.ds) 8).l=s.l:=rfl;have h1:=A7y (s.need (A7d x.nm&&p x.ds) 8) x.cl false;rw[h0]at h1
 generalize(s.need (A7d x.nm&&p x.ds) 8).cls x.cl false=c at*;have h2:=A2p c.1 x.nm;generalize c.1.text x.nm=n at*;have h3:=A2p n.1 x.ds;generalize n.1.text x.ds=d at*
 have h4:=A8r d.1 ⟨12,(n.2:Nat),(d.2:Nat),0,[]⟩;generalize d.1.put ⟨12,(n.2:Nat),(d.2:Nat),0,[]⟩=b at*;have h5:=A8r b.1 ⟨tag,(c.2:Nat),(b.2:Nat),0,[]⟩
 show(b.1.put ⟨tag,(c.2:Nat),(b.2:Nat),0,[]⟩).1.l.length<=_;omega
theorem B8v(s:LW)(x:IN):(s.con x).1.l.length<=s.l.length+4:=by
 unfold LW.con;split
 ·have h:=A8r (s.need (A7f x.n) 8) ⟨3,0,0,x.n,[]⟩;have h0:(s.need (A7f x.n) 8).l=s.l:=rfl;rw[h0]at h;omega
 split
 ·have h1:=A2p s x.tx;have h2:=A8r (s.text x.tx).1 ⟨8,((s.text x.tx).2:Nat),0,0,[]⟩;omega
 split
 ·have h:=A8r s ⟨5,0,0,x.n,[]⟩;omega
 show s.l.length<=_;omega
theorem C6q(s:LW)(x:IN):(s.wide x).1.l.length<=s.l.length+12:=by
 unfold LW.wide;split
 ·exact B7e (s.need (A4v x) 8) x 9 typeB
 split
 ·exact B7e (s.need (A4v x) 8) x 10 A3k
 have h:=A7y (s.need (B6q x) 8) x.cl (decide (x.op≠187));have h0:(s.need (B6q x) 8).l=s.l:=rfl;rw[h0]at h;omega
theorem D9h(s:LW)(p:Nat)(x:IN):(s.raw p x).1.l.length<=s.l.length+12:=by
 unfold LW.raw;split
 ·have h:=B8v (s.need (decide (x.cl=[]/\x.nm=[]/\x.m=0)) 8) x;have h0:(s.need (decide (x.cl=[]/\x.nm=[]/\x.m=0)) 8).l=s.l:=rfl;rw[h0]at h
  show((s.need (decide (x.cl=[]/\x.nm=[]/\x.m=0)) 8).con x).1.l.length<=_;omega
 split
 ·exact C6q s x
 split
 ·show s.l.length<=_;omega
 show s.l.length<=_;omega
theorem D6x(s:LW)(t:List UInt8):(s.slot t).1.l.length<=s.l.length+4:=by
 unfold LW.slot;split
 ·simp
 split
 ·simp
 split
 ·simp
 split
 ·simp
 split
 ·exact A7y _ _ _
 exact A7y (s.need (A2m t) 8) t true
end
section
open Go.ChangeShapes Go.WideShapes Go.ChangeAt Go.RowKit Go.Maps
abbrev B4m:=92
abbrev A6n:=61
abbrev D9s:=90
def E3r(c:KV):Lit:= .string (keyBytes [.int .i64 c.tag,.int .i64 c.a,.int .i64 c.b,.int .i64 c.n,.string c.s])
structure KOk(c:KV):Prop where
 t:A4p c.tag
 a:A4p c.a
 b:A4p c.b
 n:A4p c.n
 s:c.s.length<=1099511627776
theorem D9w:A6n<Tryz.prog.types.size:=by
 have h:Nat.ble (A6n+1) Tryz.prog.types.size=true:=by kernel_rfl
 generalize Tryz.prog.types.size=n at*;exact Nat.lt_of_succ_le (Nat.le_of_ble_eq_true h)
theorem E0g:Tryz.prog.keyTypeAt 2 A6n=true:=by kernel_rfl
theorem D6w:laidOutB Tryz.prog=true:=by kernel_rfl
theorem B5r:Keyed Tryz.prog A6n:=Keyed.of_law (deep_law_laid D6w (m:=2) (by omega) D9w E0g (by rw[Tryz.underlying61]))
theorem B1v{c:KV}(h:KOk c):keyOf Tryz.prog A6n (.agg c.cells.toArray)=some (E3r c):=by
 have hi:∀(d:Nat) (x:Int),A4p x->Tryz.prog.keyLits (d+1) 3 [.int .i64 x]=some [.int .i64 x]:=fun d x hx=>by
  unfold Program.keyLits;rw[Tryz.underlying3];simp only;rw[if_pos ⟨trivial,hx⟩]
 have hi2:∀(d:Nat) (x:Int),A4p x->Tryz.prog.keyLits (d+1) 2 [.int .i64 x]=some [.int .i64 x]:=fun d x hx=>by
  unfold Program.keyLits;rw[Tryz.underlying2];simp only;rw[if_pos ⟨trivial,hx⟩]
 have hs:∀(d:Nat) (x:List UInt8),x.length<=1099511627776->Tryz.prog.keyLits (d+1) 9 [.string ⟨x.toArray⟩]=some [.string x]:=fun d x hx=>by
  unfold Program.keyLits;rw[Tryz.underlying9];simp only;rw[if_pos (by show x.toArray.size<=maxLen;rw[List.size_toArray];unfold maxLen;omega)]
 have h5:Tryz.prog.cellsOf A6n=5:=by kernel_rfl
 have h1:Tryz.prog.cellsOf 3=1:=by kernel_rfl
 have h2:Tryz.prog.cellsOf 9=1:=by kernel_rfl
 have h3:Tryz.prog.cellsOf 2=1:=by kernel_rfl
 have hl:∀d,Tryz.prog.keyLits (d+1+1) A6n c.cells=some [.int .i64 c.tag,.int .i64 c.a,.int .i64 c.b,.int .i64 c.n,.string c.s]:=fun d=>by
  unfold Program.keyLits;rw[Tryz.underlying61];simp only;rw[if_pos ⟨h5.symm,by kernel_rfl⟩];simp[KV.cells,h1,h2,h3,hi d _ h.t,hi d _ h.a,hi d _ h.b,hi2 d _ h.n,hs d _ h.s]
 have hf:Value.formed Tryz.prog A6n (.agg c.cells.toArray)=true:=by
  unfold Value.formed;rw[Tryz.underlying61];simp only;rw[h5];rfl
 obtain⟨d,hd⟩:∃d,Tryz.prog.types.size=d+1:=Nat.exists_eq_succ_of_ne_zero (fun e=>by
  have:Nat.beq Tryz.prog.types.size 0=false:=by kernel_rfl
  rw[e]at this
  cases this)
 unfold keyOf;rw[Tryz.underlying61];simp only;rw[hf,show Tryz.prog.keyType A6n=true by kernel_rfl,hd]
 show(if _ then(Tryz.prog.keyLits (d+1+1) A6n c.cells).map _ else none)=_
 rw[hl d];rfl
def C0k:Option Obj->Prop
 |some (.cells _ t _)=>t≠A6n/\t≠B4m
 |some (.map _ _)=>False
 |_=>True
structure A0y(B:Nat)(w w':World):Prop where
 os:w'.os=w.os
 tape:w'.tape=w.tape
 output:w'.output=w.output
 size:w.heap.size<=w'.heap.size
 block:∀k,k<w.heap.size->(k<B\/C0k w.heap[k]?)->w'.heap[k]? =w.heap[k]?
theorem A0y.refl(B:Nat)(w:World):A0y B w w:=⟨rfl,rfl,rfl,Nat.le_refl _,fun _ _ _=>rfl⟩
theorem A0y.trans{B:Nat}{w w1 w2:World}(h:A0y B w w1)(k:A0y B w1 w2):A0y B w w2:=
 ⟨k.os.trans h.os,k.tape.trans h.tape,k.output.trans h.output,Nat.le_trans h.size k.size,fun i hi hg=>by
  have h1:=h.block i hi hg;rw[k.block i (Nat.lt_of_lt_of_le hi h.size) (by rw[h1];exact hg),h1]⟩
theorem A0y.of{B:Nat}{w w1:World}(h:Below w.heap.size w w1):A0y B w w1:=⟨h.os,h.tape,h.output,h.size,fun k hk _=>h.block k hk⟩
theorem A0y.grown{B:Nat}{w w1:World}{row:Option Nat}(h:w.grownBy w1 row)(hr:∀k,row=some k->k<w.heap.size->B<=k/\¬C0k w.heap[k]?):A0y B w w1:=
 ⟨h.os,h.tape,h.output,h.size,fun k hk hg=>h.block k hk (fun e=>by
  obtain⟨h1,h2⟩:=hr k e.symm hk
  rcases hg with hg|hg
  ·omega
  exact h2 hg)⟩
theorem A0y.set{B:Nat}{w:World}{g:Nat}(h:B<=g/\¬C0k w.heap[g]?)(o:Nat)(v:Value):A0y B w (w.setCell ⟨g,o,none⟩ v):=
 ⟨rfl,rfl,rfl,by unfold World.setCell;simp,fun k hk hq=>by
  unfold World.setCell
  have hne:¬g=k:=by
   rintro rfl
   rcases hq with h1|h1
   ·omega
   exact h.2 h1
  simp[Array.getElem?_modify,hne]⟩
theorem A0y.below{B:Nat}{w0 w w':World}(h:A0y B w w')(hb:Below B w0 w)(hB:B<=w0.heap.size):Below B w0 w':=
 ⟨h.os.trans hb.os,h.tape.trans hb.tape,h.output.trans hb.output,Nat.le_trans hb.size h.size,fun k hk=>by
  rw[h.block k (Nat.lt_of_lt_of_le (Nat.lt_of_lt_of_le hk hB) hb.size) (.inl hk)];exact hb.block k hk⟩
theorem A0y.row{B:Nat}{w w':World}(h:A0y B w w'){g:Nat}{cs:Array Value}{t:TypeId}{fr:Nat×Nat}(hg:w.heap[g]? =some (.cells cs t fr))(h1:t≠A6n)(h2:t≠B4m):w'.heap[g]? =some (.cells cs t fr):=by
 rw[h.block g (Array.getElem?_eq_some_iff.1 hg).1 (.inr (by rw[hg];exact⟨h1,h2⟩))];exact hg
theorem A0y.own{B:Nat}{w w':World}{B':Nat}{e:TypeId}{size:Nat}{v:Value}{n:Nat}{xs:List Value}(h:w.ownsRow B' e size v n xs)(k:A0y B w w')(h1:e≠A6n)(h2:e≠B4m):w'.ownsRow B' e size v n xs:=by
 refine⟨h.1,?_⟩
 rcases h.2 with⟨h1,h2⟩|⟨b,cap,cur,hv,hb,hc,r⟩
 ·exact .inl ⟨h1,h2⟩
 exact .inr ⟨b,cap,cur,hv,hb,k.row hc h1 h2,r⟩
theorem A0y.vw{B:Nat}{w w':World}(h:A0y B w w')(hv:VW w)(h0:0<B):VW w':=by
 obtain⟨m,hm⟩:=hv;refine⟨m,?_⟩
 have hlt:0<w.heap.size:=by
  rcases Nat.eq_zero_or_pos w.heap.size with h1|h1
  ·exfalso;have:w.heap[0]? =none:=Array.getElem?_eq_none (by omega);simp[World.cell?,this]at hm
  exact h1
 rw[<-hm];unfold World.cell?;rw[h.block 0 hlt (.inl h0)]
def B3q(w:World)(b:Nat)(L:List KV):Prop:=
 ∃D,w.ownsMap Tryz.prog A6n (plainElem (H:=Unit) Tryz.prog 3) b L.length D/\∀c,KOk c->c.tag≠0->∀z,D.atKey (E3r c) z=(match B8f L c with|some i=> .lit (.int .i64 (i:Nat))|none=>z)
theorem B3q.lt{w:World}{b:Nat}{L:List KV}(h:B3q w b L):b<w.heap.size:=by obtain⟨D,h,_⟩:=h;exact h.lt
theorem B3q.kept{w w':World}{b:Nat}{L:List KV}{row:Option Nat}(h:B3q w b L)(hg:w.grownBy w' row)(hne:some b≠row):B3q w' b L:=by
 obtain⟨D,h,hd⟩:=h;exact⟨D,h.kept hg hne,hd⟩
theorem B3q.setCell{w:World}{b:Nat}{L:List KV}(h:B3q w b L){a:Addr}(ha:b≠a.block)(u:Value):B3q (w.setCell a u) b L:=by
 obtain⟨D,h,hd⟩:=h;exact⟨D,h.setCell ha u,hd⟩
theorem B3q.below{w w':World}{b:Nat}{L:List KV}(h:B3q w b L)(hb:Below w.heap.size w w'):B3q w' b L:=h.kept (row:=none) ⟨hb.os,hb.tape,hb.output,hb.size,fun k hk _=>hb.block k hk⟩ (by simp)
structure LoX(w:World)(B g:Nat)(s:LW)(a:Option Addr)(cap b:Nat):Prop where
 k:C9x w g (.slice a s.l.length cap) (.map (some b)) (.int .i64 s.e) B4m
 o:w.ownsRow B A6n 5 (.slice a s.l.length cap) s.l.length (s.l.flatMap KV.cells)
 m:B3q w b s.l
 bB:B<=b
 gB:B<=g
 B0:0<B
 vw:VW w
def LoS(w:World)(B g:Nat)(s:LW):Prop:=∃a cap b,LoX w B g s a cap b
theorem LoX.bg{w:World}{B g:Nat}{s:LW}{a:Option Addr}{cap b:Nat}(h:LoX w B g s a cap b):b≠g:=by
 rintro rfl;obtain⟨D,⟨es,cl,hm,_⟩,_⟩:=h.m;have:=h.k;unfold C9x at this;rw[hm]at this
 cases this
theorem LoX.nk{w:World}{B g:Nat}{s:LW}{a:Option Addr}{cap b:Nat}(h:LoX w B g s a cap b):B<=g/\¬C0k w.heap[g]? :=by
 refine⟨h.gB,?_⟩;have:=h.k;unfold C9x at this;rw[this];exact fun hh=>hh.2 rfl
theorem LoX.nm{w:World}{B g:Nat}{s:LW}{a:Option Addr}{cap b:Nat}(h:LoX w B g s a cap b):B<=b/\¬C0k w.heap[b]? :=by
 refine⟨h.bB,?_⟩;obtain⟨D,⟨es,cl,hm,_⟩,_⟩:=h.m;rw[hm];exact fun hh=>hh
theorem LoX.below{w w':World}{B g:Nat}{s:LW}{a:Option Addr}{cap b:Nat}(h:LoX w B g s a cap b)(hb:Below w.heap.size w w'):LoX w' B g s a cap b:=
 ⟨h.k.below hb,A1p h.o hb,h.m.below hb,h.bB,h.gB,h.B0,h.vw.below hb⟩
theorem LoS.below{w w':World}{B g:Nat}{s:LW}(h:LoS w B g s)(hb:Below w.heap.size w w'):LoS w' B g s:=by
 obtain⟨a,cap,b,h⟩:=h;exact⟨a,cap,b,h.below hb⟩
theorem LoX.lt{w:World}{B g:Nat}{s:LW}{a:Option Addr}{cap b:Nat}(h:LoX w B g s a cap b):g<w.heap.size:=h.k.box.lt
theorem LoS.lt{w:World}{B g:Nat}{s:LW}(h:LoS w B g s):g<w.heap.size:=by
 obtain⟨a,cap,b,h⟩:=h;exact h.lt
theorem LoX.set2{w:World}{B g:Nat}{s:LW}{a:Option Addr}{cap b:Nat}(h:LoX w B g s a cap b)(e2:Int):LoX (w.setCell ⟨g,2,none⟩ (.int .i64 e2)) B g ⟨s.l,e2⟩ a cap b:=
 ⟨A1e h.k 2 _,A1a h.o (A3t h.k 2 _) (by decide),h.m.setCell h.bg _,h.bB,h.gB,h.B0,(A0y.set h.nk 2 _).vw h.vw h.B0⟩
def B2y(v:Value)(B g:Nat)(s:LW)(w:World)(e:Ending)(w':World):Prop:=e= .returned v/\LoS w' B g s/\A0y B w w'
end
end Go.Proofs.YtclpkipaehpkdaaGreatDoor
