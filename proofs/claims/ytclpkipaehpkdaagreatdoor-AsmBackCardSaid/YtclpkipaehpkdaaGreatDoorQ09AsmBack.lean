/- asm -/
import Derived.Test.YtclpkipaehpkdaaGreatDoorQ06AsmBack
import Derived.Test.YtclpkipaehpkdaaGreatDoorQ07AsmBack
import Derived.DeepKeys4
set_option linter.unusedVariables false
set_option linter.unusedSimpArgs false
set_option maxRecDepth 100000
set_option maxHeartbeats 64000000
open Go.Proofs.Tryz
namespace Go.Proofs.YtclpkipaehpkdaaGreatDoor
section
open Go.ChangeShapes Go.WideShapes Go.ChangeAt Go.RowKit
open Go.Maps (Keyed int_keyed)
theorem wh{er k:Int}{ok:Bool}(hk:k≠0):yj er ok k=0↔er=0/\ok=true:=by
 unfold yj
 cases ok
 ·by_cases h:er=0
  ·rw[if_pos ⟨rfl,h⟩];simp[hk]
  rw[if_neg (fun h'=>h h'.2)];simp[h]
 rw[if_neg (fun h'=>absurd h'.1 (by decide))];simp
def LfR(v:Value)(g:Nat)(a:Option Addr)(n cap:Nat)(L:List KV)(er:Int)(C:Bool)(w:World)(e:Ending)(w':World):Prop:=
 e= .returned v/\(∃er',(er'=0↔er=0/\C=true)/\LfS w' g a n cap L er')/\yZ (fun x=>x=g) w w'
theorem yZ.ofB{B:Nat}{w w':World}(h:Below B w w')(hs:w.heap.size<=w'.heap.size):yZ (fun k=>B<=k) w w':=⟨h.os,h.tape,h.output,hs,fun k hk hq=>h.block k (by omega)⟩
theorem LfS.newer{w0 w w':World}{g:Nat}{a:Option Addr}{n cap:Nat}{L:List KV}{Uc er:Int}(h0:LfS w0 g a n cap L Uc)(h:LfS w g a n cap L er){B:Nat}(hB:w0.heap.size<=B)(hk:yZ (fun k=>B<=k) w w'):LfS w' g a n cap L er:=by
 have hg:=h0.lt;refine h.keep hk (fun hh=>by omega) (fun hh=>by have:=h.g0;omega) (fun hn b off e hh=> ?_);obtain⟨b',off',e2,ZX,_⟩:=h0.ks.2 hn;rw[e]at e2;simp only[Option.some.injEq,Addr.mk.injEq]at e2;omega
def yD(K:List KV)(s:KS):List UInt8:=
 if s.tag=0 then [84]else if s.tag=1 then [73]else if s.tag=4 then [74]else if s.tag=5 then [78]
 else if x6 (yQ K s.a).1 then(yQ K s.a).1 else uT (yQ K s.a).1
def xa(K:List KV)(s:KS):Bool:=decide (s.tag≠7)||aclsB K s.a true
def uH(s:KS):Prop:=s.tag=0\/s.tag=1\/s.tag=4\/s.tag=5\/s.tag=7
def wG(t:Int):List UInt8:=if t=0 then [84]else if t=1 then [73]else if t=4 then [74]else if t=5 then [78]else []
theorem yZ.new{p:Nat->Prop}{w w1 w2:World}(h:yZ p w w1)(k:yZ (fun x=>w.heap.size<=x) w1 w2):yZ p w w2:=
 ⟨k.os.trans h.os,k.tape.trans h.tape,k.output.trans h.output,Nat.le_trans h.size k.size,fun i hi hg=>by rw[k.block i (Nat.lt_of_lt_of_le hi h.size) (by omega),h.block i hi hg]⟩
theorem tY{p:Nat->Prop}{w w':World}{B:Nat}{e:TypeId}{size:Nat}{v:Value}{n:Nat}{xs:List Value}(h:w.ownsRow B e size v n xs)(k:yZ p w w')(hp:∀x,p x->x<B\/w.heap.size<=x):w'.ownsRow B e size v n xs:=by
 refine⟨h.1,?_⟩
 rcases h.2 with⟨h1,h2⟩|⟨b,cap,cur,hv,hb,hc,r⟩
 ·exact .inl ⟨h1,h2⟩
 refine .inr ⟨b,cap,cur,hv,hb,?_,r⟩;have ZX:=(Array.getElem?_eq_some_iff.1 hc).1;rw[k.block b ZX (fun Gd=>by have:=hp b Gd;omega)];exact hc
theorem vE(K:List KV)(s:KS)(h:s.tag=0\/s.tag=1\/s.tag=4\/s.tag=5):yD K s=wG s.tag/\xa K s=true:=by
 unfold yD xa wG
 rcases h with h|h|h|h<;>simp[h]
theorem rc(K:List KV)(sa:Int):yD K ⟨7,sa⟩=(if x6 (yQ K sa).1 then(yQ K sa).1 else uT (yQ K sa).1)/\xa K ⟨7,sa⟩=aclsB K sa true:=by
 unfold yD xa;simp
theorem D9n{v:Value}{z:DataW Unit×List MemPlace}(h:plainElem prog 9 v=some z):∃s:ByteArray,v= .string s/\z=(.lit (.string s.data.toList),[]):=by
 unfold plainElem at h;rw[underlying9]at h
 cases v<;>simp at h
 exact⟨_,rfl,h.2.symm⟩
theorem E1w(w:World):(zeroValue 9).run prog w= .ok (.string ⟨#[]⟩) w:=by kernel_rfl
abbrev pT:=175
theorem E8q(W:World)(b:Nat)(h:W.ownsMap prog 3 (plainElem (H:=Unit) prog 9) b 0 (.map [])):
  ∃w1 w2 w3 w4,(Instr.mapUpdate pT (.map (some b)) (.int .i64 0) (.string ⟨#[84]⟩)).run prog W= .ok () w1/\(Instr.mapUpdate pT (.map (some b)) (.int .i64 1) (.string ⟨#[73]⟩)).run prog w1= .ok () w2/\
   (Instr.mapUpdate pT (.map (some b)) (.int .i64 4) (.string ⟨#[74]⟩)).run prog w2= .ok () w3/\(Instr.mapUpdate pT (.map (some b)) (.int .i64 5) (.string ⟨#[78]⟩)).run prog w3= .ok () w4/\
   (∀t:Int,(t=0\/t=1\/t=4\/t=5\/t=7)->(Instr.lookup pT (.map (some b)) (.int .i64 t) false).run prog w4= .ok (.string ⟨(wG t).toArray⟩) w4)/\W.grownBy w4 (some b):=by
 have K:=int_keyed (P:=prog) underlying3;have ks:∀(s:ByteArray),s.size<=1->plainElem (H:=Unit) prog 9 (.string s)=some (.lit (.string s.data.toList),[]):=fun s hs=>plainElem_string underlying9 (by unfold maxLen;omega)
 obtain⟨w1,r1,o1,t1⟩:=h.store K underlying175 (by decide) (val:= .string ⟨#[84]⟩) (Maps.keyOf_int_mk underlying3 (show(Lit.int .i64 0).wf=true by decide)) (ks _ (by decide));obtain⟨w2,r2,o2,t2⟩:=o1.store K underlying175 (by decide) (val:= .string ⟨#[73]⟩) (Maps.keyOf_int_mk underlying3 (show(Lit.int .i64 1).wf=true by decide)) (ks _ (by decide));obtain⟨w3,r3,o3,t3⟩:=o2.store K underlying175 (by decide) (val:= .string ⟨#[74]⟩) (Maps.keyOf_int_mk underlying3 (show(Lit.int .i64 4).wf=true by decide)) (ks _ (by decide));obtain⟨w4,r4,o4,t4⟩:=o3.store K underlying175 (by decide) (val:= .string ⟨#[78]⟩) (Maps.keyOf_int_mk underlying3 (show(Lit.int .i64 5).wf=true by decide)) (ks _ (by decide));refine⟨w1,w2,w3,w4,r1,r2,r3,r4,fun t ht=> ?_,((t1.trans t2).trans (t3.trans t4)).grown⟩;obtain⟨v,ps,Xa,hv⟩:=o4.lookup K underlying175 (E1w w4) (ks ⟨#[]⟩ (by decide)) (Maps.keyOf_int_mk underlying3 (show(Lit.int .i64 t).wf=true from xp (by omega)));obtain⟨s,rfl,hs⟩:=D9n hv;rw[Xa];simp only[Prod.mk.injEq]at hs;have h1:=hs.1
 have e:s.data.toList=wG t:=by
  have key:∀d:DataW Unit,d= .lit (.string s.data.toList)->d= .lit (.string (wG t))->s.data.toList=wG t:=fun d e1 e2=>by
   rw[e1]at e2;simpa using e2
  rcases ht with rfl|rfl|rfl|rfl|rfl
  ·exact key _ h1 rfl
  ·exact key _ h1 rfl
  ·exact key _ h1 rfl
  ·exact key _ h1 rfl
  exact key _ h1 rfl
 rw[<-e,iu]
theorem ji(w:World)(g:Nat)(a:Option Addr)(n cap:Nat)(K:List KV)(er:Int)(za:Option Addr)(zn zc:Nat)(l:List KS)(h:LfS w g a n cap K er)(hz:Ss 2 KS.cells w za zn l)(ho:wX za zn g)(Jh:zn<=1000000)(ht:∀s∈l,uH s):
  Calls prog 57 #[.pointer (some ⟨g,0,none⟩),.slice za zn zc] w fun e w'=>∃oa oc,LfR (.slice oa zn oc) g a n cap K er (l.all (xa K)) w e w'/\w'.ownsRow w.heap.size 9 1 (.slice oa zn oc) zn ((l.map (yD K)).map xX):=by
 have H:=Z' h;have HZ:=Z' hz;have M9:=Z' hz.1;have HO:=Z' ho;have LH:=Z' ht;have Vj:= @run_makeMap prog;clear h hz ho ht;go_enter func57,ntmps57
 go_wp2_with fail
 go_loopg [5,11] zn (fun gn ov i wr=>∃(j:Nat) (er':Int) (oa:Option Addr) (oc:Nat),j<=zn/\gn=zn-j/\ov= .slice oa j oc/\i= .int .i64 j/\Hid (LfS wr g a n cap K er')/\Hid (er'=0↔er=0/\(l.take j).all (xa K)=true)/\Hid (yZ (fun x=>x=g) w wr)/\Hid (wr.ownsRow w.heap.size 9 1 (.slice oa j oc) j (((l.take j).map (yD K)).map xX)))
 case atStart=>exact⟨0,er,none,0,by omega,by omega,rfl,by go_num,H,Z' (by simp),Z' (yZ.refl _ _),Z' (World.ownsRow_nil _ _ _ _)⟩
 obtain⟨j,er',oa,oc,hj,rfl,rfl,rfl,HL,HE,HK,Vg⟩:=hrel;by_cases ZX:j<zn
 ·have U9:=HK.out.ss HZ.out (fun hn b off e=>HO.out hn b off e);obtain⟨b,off,s,rfl,Zu,hs,q⟩:=U9.getC j ZX;have q0:=q 0 (by omega);have q1:=q 1 (by omega);rw[Nat.add_zero]at q0;have XZ:(j:Int)<zn:=by omega
  have Rq:=LH.out s (List.mem_of_getElem? hs)
  have YW:=Z' (show l.take (j+1)=l.take j++[s] by
   have YP:=(Z4 hs).1;rw[List.take_succ_eq_append_getElem YP,(Z4 hs).2])
  obtain⟨tag,sa⟩:=s;simp only[KS.cells,List.getElem?_cons_zero,List.getElem?_cons_succ]at q0 q1;unfold uH at Rq;simp only at Rq;clear U9 q hs ZX;have QB:=World.ownsMap_made (wr.alloc (.cells #[.int .i64 tag,.int .i64 sa] 174)) prog 3 (plainElem (H:=Unit) prog 9);rw[show(wr.alloc (.cells #[.int .i64 tag,.int .i64 sa] 174)).heap.size=wr.heap.size+1 by simp]at QB;obtain⟨w1,w2,w3,w4,r1,r2,r3,r4,hl,Xd⟩:=E8q _ _ QB
  have Y1:Below wr.heap.size wr w4:=((Below.refl wr.heap.size wr).alloc Z5 _).alloc (by simp) _|>.grown Xd (by simp;omega) (fun m hm=>by cases hm;omega)
  have YN:w4.heap[wr.heap.size]? =some (.cells #[.int .i64 tag,.int .i64 sa] 174 (0,0)):=by
   rw[Xd.block wr.heap.size (by simp;omega) (by simp),Below.heap_alloc _ _ _ (by simp)];exact heap_alloc_last wr _
  have s0:w4.cell? ⟨wr.heap.size,0,none⟩=some (.int .i64 tag):=y8 YN 0 rfl;have s1:w4.cell? ⟨wr.heap.size,1,none⟩=some (.int .i64 sa):=y8 YN 1 rfl;have TX:=Z' (HL.out.below Y1);have X0:=Z' (HK.out.trans (yZ.of Y1));have XL:=Z' (wE Vg.out Y1);have hbl2:b<wr.heap.size:=Zu;have j0:j<1000000:=by omega
  clear QB Xd Y1 HL HK Vg
  rcases Rq with rfl|rfl|rfl|rfl|rfl
  ·have Yn:=Z' (show(l.take (j+1)).map (yD K)=(l.take j).map (yD K)++[wG 0] by rw[YW.out,List.map_append,List.map_singleton,(vE K ⟨0,sa⟩ (by simp)).1]);have WV:=Z' (show er'=0↔er=0/\(l.take (j+1)).all (xa K)=true by rw[YW.out,List.all_append,HE.out];simp[(vE K ⟨0,sa⟩ (by simp)).2]);have VM:=hl 0 (by simp);clear hl;obtain⟨tx,Zb⟩:=Z8 (wG 0);rw[<-Zb]at VM Yn;clear Zb
   go_wp2_with (at_builtin;refine um uN rfl _ _ rfl w.heap.size _ j _ rfl XL.out _ 1 _ _ rfl (by simp) rfl rfl (by omega) (by unfold maxLen;omega) X0.out.size ?_;intro v9 w9 Z0 ZA ZK;obtain⟨a9,c9,rfl,-,-⟩:=Sl.ofOwn (enc:=xX) (xs:=((l.take j).map (yD K))++[tx]) (by rw[List.map_append];exact Z0);have X3:=Z' (show w9.ownsRow w.heap.size 9 1 (.slice a9 (j+1) c9) (j+1) ((((l.take j).map (yD K))++[tx]).map xX) by rw[List.map_append];exact Z0);have ZU:yZ (fun k=>w.heap.size<=k) w4 w9:=yZ.ofB ZK (Nat.le_trans (by simp) ZA.size);have WT:=Z' (X0.out.new ZU);have S2:=Z' (H.out.newer TX.out Z5 ZU);clear Z0 ZA ZK ZU)
   go_roundg (zn-(j+1))
   case measure=>omega
   exact⟨j+1,_,_,_,by omega,rfl,rfl,by go_num,S2,WV,WT,Z' (by rw[Yn.out];exact X3.out)⟩
  ·have Yn:=Z' (show(l.take (j+1)).map (yD K)=(l.take j).map (yD K)++[wG 1] by rw[YW.out,List.map_append,List.map_singleton,(vE K ⟨1,sa⟩ (by simp)).1]);have WV:=Z' (show er'=0↔er=0/\(l.take (j+1)).all (xa K)=true by rw[YW.out,List.all_append,HE.out];simp[(vE K ⟨1,sa⟩ (by simp)).2]);have VM:=hl 1 (by simp);clear hl;obtain⟨tx,Zb⟩:=Z8 (wG 1);rw[<-Zb]at VM Yn;clear Zb
   go_wp2_with (at_builtin;refine um uN rfl _ _ rfl w.heap.size _ j _ rfl XL.out _ 1 _ _ rfl (by simp) rfl rfl (by omega) (by unfold maxLen;omega) X0.out.size ?_;intro v9 w9 Z0 ZA ZK;obtain⟨a9,c9,rfl,-,-⟩:=Sl.ofOwn (enc:=xX) (xs:=((l.take j).map (yD K))++[tx]) (by rw[List.map_append];exact Z0);have X3:=Z' (show w9.ownsRow w.heap.size 9 1 (.slice a9 (j+1) c9) (j+1) ((((l.take j).map (yD K))++[tx]).map xX) by rw[List.map_append];exact Z0);have ZU:yZ (fun k=>w.heap.size<=k) w4 w9:=yZ.ofB ZK (Nat.le_trans (by simp) ZA.size);have WT:=Z' (X0.out.new ZU);have S2:=Z' (H.out.newer TX.out Z5 ZU);clear Z0 ZA ZK ZU)
   go_roundg (zn-(j+1))
   case measure=>omega
   exact⟨j+1,_,_,_,by omega,rfl,rfl,by go_num,S2,WV,WT,Z' (by rw[Yn.out];exact X3.out)⟩
  ·have Yn:=Z' (show(l.take (j+1)).map (yD K)=(l.take j).map (yD K)++[wG 4] by rw[YW.out,List.map_append,List.map_singleton,(vE K ⟨4,sa⟩ (by simp)).1]);have WV:=Z' (show er'=0↔er=0/\(l.take (j+1)).all (xa K)=true by rw[YW.out,List.all_append,HE.out];simp[(vE K ⟨4,sa⟩ (by simp)).2]);have VM:=hl 4 (by simp);clear hl;obtain⟨tx,Zb⟩:=Z8 (wG 4);rw[<-Zb]at VM Yn;clear Zb
   go_wp2_with (at_builtin;refine um uN rfl _ _ rfl w.heap.size _ j _ rfl XL.out _ 1 _ _ rfl (by simp) rfl rfl (by omega) (by unfold maxLen;omega) X0.out.size ?_;intro v9 w9 Z0 ZA ZK;obtain⟨a9,c9,rfl,-,-⟩:=Sl.ofOwn (enc:=xX) (xs:=((l.take j).map (yD K))++[tx]) (by rw[List.map_append];exact Z0);have X3:=Z' (show w9.ownsRow w.heap.size 9 1 (.slice a9 (j+1) c9) (j+1) ((((l.take j).map (yD K))++[tx]).map xX) by rw[List.map_append];exact Z0);have ZU:yZ (fun k=>w.heap.size<=k) w4 w9:=yZ.ofB ZK (Nat.le_trans (by simp) ZA.size);have WT:=Z' (X0.out.new ZU);have S2:=Z' (H.out.newer TX.out Z5 ZU);clear Z0 ZA ZK ZU)
   go_roundg (zn-(j+1))
   case measure=>omega
   exact⟨j+1,_,_,_,by omega,rfl,rfl,by go_num,S2,WV,WT,Z' (by rw[Yn.out];exact X3.out)⟩
  ·have Yn:=Z' (show(l.take (j+1)).map (yD K)=(l.take j).map (yD K)++[wG 5] by rw[YW.out,List.map_append,List.map_singleton,(vE K ⟨5,sa⟩ (by simp)).1]);have WV:=Z' (show er'=0↔er=0/\(l.take (j+1)).all (xa K)=true by rw[YW.out,List.all_append,HE.out];simp[(vE K ⟨5,sa⟩ (by simp)).2]);have VM:=hl 5 (by simp);clear hl;obtain⟨tx,Zb⟩:=Z8 (wG 5);rw[<-Zb]at VM Yn;clear Zb
   go_wp2_with (at_builtin;refine um uN rfl _ _ rfl w.heap.size _ j _ rfl XL.out _ 1 _ _ rfl (by simp) rfl rfl (by omega) (by unfold maxLen;omega) X0.out.size ?_;intro v9 w9 Z0 ZA ZK;obtain⟨a9,c9,rfl,-,-⟩:=Sl.ofOwn (enc:=xX) (xs:=((l.take j).map (yD K))++[tx]) (by rw[List.map_append];exact Z0);have X3:=Z' (show w9.ownsRow w.heap.size 9 1 (.slice a9 (j+1) c9) (j+1) ((((l.take j).map (yD K))++[tx]).map xX) by rw[List.map_append];exact Z0);have ZU:yZ (fun k=>w.heap.size<=k) w4 w9:=yZ.ofB ZK (Nat.le_trans (by simp) ZA.size);have WT:=Z' (X0.out.new ZU);have S2:=Z' (H.out.newer TX.out Z5 ZU);clear Z0 ZA ZK ZU)
   go_roundg (zn-(j+1))
   case measure=>omega
   exact⟨j+1,_,_,_,by omega,rfl,rfl,by go_num,S2,WV,WT,Z' (by rw[Yn.out];exact X3.out)⟩
  have VM:=hl 7 (by simp);rw[show wG 7=[]from rfl]at VM;clear hl;have Y4:=Z' (qD w4 g a n cap K er' sa true TX.out);have VT:=uj TX.out.tx sa;have RG:=rc K sa;have ND:=Z' (fun W (hv:VW W)=>pM W (yQ K sa).1 VT hv);have N1:=Z' (fun W=>D1u W (yQ K sa).1 VT);obtain⟨ib,Tk⟩:=Z8 (x6 (yQ K sa).1);rw[<-Tk]at RG ND;have T8:=Z' YN;generalize(yQ K sa).1=c at*
  go_wp2_with fail
  refine Y4.out.mono ?_;rintro e w5 ⟨rfl,h5,k5⟩;have Ls:=Z' h5;have XD:=Z' (X0.out.trans k5);have U7:=Z' (tY XL.out k5 (fun x hx=> .inl (by have:=H.out.lt;omega)));clear h5 k5 Y4
  go_wp2_with fail
  refine(ND.out w5 Ls.out.vw).mono ?_;rintro e w6 ⟨rfl,Yy⟩;have TX:=Z' (Ls.out.below Yy);have X0:=Z' (XD.out.trans (yZ.of Yy));have XL:=Z' (wE U7.out Yy)
  have WV:=Z' (show yj er' (aclsB K sa true) 8=0↔er=0/\(l.take (j+1)).all (xa K)=true by
   rw[YW.out,List.all_append,wh (by decide),HE.out];simp[RG.2,and_assoc])
  clear Yy ND
  cases ib
  ·have Yn:=Z' (show(l.take (j+1)).map (yD K)=(l.take j).map (yD K)++[uT c] by rw[YW.out,List.map_append,List.map_singleton,RG.1];simp);have Gw:=Z' (N1.out w6);generalize uT c=tx at*;clear RG Tk N1
   go_wp2_with fail
   refine Gw.out.mono ?_;rintro e w7 ⟨rfl,AH⟩;subst AH
   go_wp2_with (at_builtin;refine um uN rfl _ _ rfl w.heap.size _ j _ rfl XL.out _ 1 _ _ rfl (by simp) rfl rfl (by omega) (by unfold maxLen;omega) X0.out.size ?_;intro v9 w9 Z0 ZA ZK;obtain⟨a9,c9,rfl,-,-⟩:=Sl.ofOwn (enc:=xX) (xs:=((l.take j).map (yD K))++[tx]) (by rw[List.map_append];exact Z0);have X3:=Z' (show w9.ownsRow w.heap.size 9 1 (.slice a9 (j+1) c9) (j+1) ((((l.take j).map (yD K))++[tx]).map xX) by rw[List.map_append];exact Z0);have ZU:yZ (fun k=>w.heap.size<=k) w7 w9:=yZ.ofB ZK (Nat.le_trans (by simp) ZA.size);have WT:=Z' (X0.out.new ZU);have S2:=Z' (H.out.newer TX.out Z5 ZU);clear Z0 ZA ZK ZU)
   go_roundg (zn-(j+1))
   case measure=>omega
   exact⟨j+1,_,_,_,by omega,rfl,rfl,by go_num,S2,WV,WT,Z' (by rw[Yn.out];exact X3.out)⟩
  have Yn:=Z' (show(l.take (j+1)).map (yD K)=(l.take j).map (yD K)++[c] by rw[YW.out,List.map_append,List.map_singleton,RG.1];simp);obtain⟨tx,Zb⟩:=Z8 (c);subst Zb;clear RG Tk N1
  go_wp2_with (at_builtin;refine um uN rfl _ _ rfl w.heap.size _ j _ rfl XL.out _ 1 _ _ rfl (by simp) rfl rfl (by omega) (by unfold maxLen;omega) X0.out.size ?_;intro v9 w9 Z0 ZA ZK;obtain⟨a9,c9,rfl,-,-⟩:=Sl.ofOwn (enc:=xX) (xs:=((l.take j).map (yD K))++[tx]) (by rw[List.map_append];exact Z0);have X3:=Z' (show w9.ownsRow w.heap.size 9 1 (.slice a9 (j+1) c9) (j+1) ((((l.take j).map (yD K))++[tx]).map xX) by rw[List.map_append];exact Z0);have ZU:yZ (fun k=>w.heap.size<=k) w6 w9:=yZ.ofB ZK (Nat.le_trans (by simp) ZA.size);have WT:=Z' (X0.out.new ZU);have S2:=Z' (H.out.newer TX.out Z5 ZU);clear Z0 ZA ZK ZU)
  go_roundg (zn-(j+1))
  case measure=>omega
  exact⟨j+1,_,_,_,by omega,rfl,rfl,by go_num,S2,WV,WT,Z' (by rw[Yn.out];exact X3.out)⟩
 obtain rfl:j=zn:=by omega
 have ZV:l.take j=l:=List.take_of_length_le (by rw[M9.out];exact Nat.le_refl _);rw[ZV]at HE Vg;clear Vj ZX
 go_wp2_with fail
 go_ret;exact⟨_,_,⟨rfl,⟨er',HE.out,HL.out⟩,HK.out⟩,Vg.out⟩
end
section
open Go.ChangeShapes Go.WideShapes Go.ChangeAt Go.RowKit
def yL(r:RW):IN:=⟨r.op,0,0,[],[],[],[]⟩
def wK(op:Nat):Bool:=decide (op=178)||(decide (op=179)||(decide (op=180)||decide (op=181)))
def vB(op:Nat):Bool:=decide (op=182)||decide (op=184)
def xT(K:List KV)(L:List RW)(r:RW):IN:=
 if yX r.op=7 then{yL r with n:=(((wF L r.a).getD 0:Nat):Int)}
 else if yX r.op=8 then{yL r with n:=r.a,m:=r.b}
 else if yX r.op=5 then xG K (yL r) r.a.toNat
 else if yX r.op=6 then
  (if r.op=20 then xG K (yL r) r.a.toNat
   else if wK r.op then vi K (yL r) r.a 9
   else if vB r.op then vi K (yL r) r.a 10
   else{yL r with cl:=(yQ K r.a).1})
 else{yL r with n:=r.a}
def ww(K:List KV)(r:RW):Bool:=
 if yX r.op=7 then true
 else if yX r.op=8 then true
 else if yX r.op=5 then xj (xG K (yL r) r.a.toNat)
 else if yX r.op=6 then
  (if r.op=20 then xj (xG K (yL r) r.a.toNat)
   else if wK r.op then vJ typeB K r.a 9
   else if vB r.op then vJ xY K r.a 10
   else aclsB K r.a (decide (r.op≠187)))
 else true
theorem yP:(prog.info? yU).map (·.size)=some 7:=by kernel_rfl
theorem xD(x:IN):x.cells.toArray.all (·.oneCell')=true:=by
 simp[IN.cells,Value.oneCell']
structure InS(w0 w:World)(g:Nat)(a:Option Addr)(n cap:Nat)(K:List KV)(er:Int)(gr gz gx:Nat)(r:RW)(x:IN)(C:Bool)(Uc:Int):Prop where
 k:LfI w g a n cap K er gx x
 raw:w.heap[gr]? =some (.cells r.cells.toArray 118 (0,0))
 zero:∃z:IN,yJ gz z w
 keep:yZ (fun k=>k=g) w0 w
 e:er=0↔Uc=0/\C=true
 hr:w0.heap.size<=gr
 hz:w0.heap.size<=gz
 hx:w0.heap.size<=gx
 nzx:gz≠gx
 nrx:gr≠gx
 nrz:gr≠gz
theorem InS.put{w0 w:World}{g:Nat}{a:Option Addr}{n cap:Nat}{K:List KV}{er:Int}{gr gz gx:Nat}{r:RW}{x x':IN}{C:Bool}{Uc:Int}(h:InS w0 w g a n cap K er gr gz gx r x C Uc)(o:Nat)(v:Value)(hi:yJ gx x' (w.setCell ⟨gx,o,none⟩ v)):
  InS w0 (w.setCell ⟨gx,o,none⟩ v) g a n cap K er gr gz gx r x' C Uc:=by
 obtain⟨z,hz⟩:=h.zero;exact⟨h.k.put o v hi,wQ h.raw h.nrx _ _,⟨z,wQ hz h.nzx _ _⟩,h.keep.set (.inr h.hx) o v,h.e,h.hr,h.hz,h.hx,h.nzx,h.nrx,h.nrz⟩
theorem InS.call{w0 w w':World}{g:Nat}{a:Option Addr}{n cap:Nat}{K:List KV}{er er':Int}{gr gz gx:Nat}{r:RW}{x x':IN}{Uc:Int}{C:Bool}(h:InS w0 w g a n cap K er gr gz gx r x true Uc)(hk:LfI w' g a n cap K er' gx x')(hp:yZ (fun k=>k=g\/k=gx) w w')(he:er'=0↔er=0/\C=true)(hg:g<w0.heap.size):
  InS w0 w' g a n cap K er' gr gz gx r x' C Uc:=by
 obtain⟨z,hz⟩:=h.zero;have h1:=h.hr;have h2:=h.hz;refine⟨hk,hp.row h.raw (fun e=> ?_),⟨z,hp.row hz (fun e=> ?_)⟩,?_,by rw[he,h.e];simp,h.hr,h.hz,h.hx,h.nzx,h.nrx,h.nrz⟩
 ·rcases e with e|e
  ·omega
  exact h.nrx e
 ·rcases e with e|e
  ·omega
  exact h.nzx e
 have h3:=h.hx
 exact⟨hp.os.trans h.keep.os,hp.tape.trans h.keep.tape,hp.output.trans h.keep.output,Nat.le_trans h.keep.size hp.size,fun i hi BF=>by
  rw[hp.block i (Nat.lt_of_lt_of_le hi h.keep.size) (fun e=>by rcases e with e|e;exact BF e;omega),h.keep.block i hi BF]⟩
theorem InS.calln{w0 w w':World}{g:Nat}{a:Option Addr}{n cap:Nat}{K:List KV}{er er':Int}{gr gz gx:Nat}{r:RW}{x:IN}{Uc:Int}{C:Bool}(h:InS w0 w g a n cap K er gr gz gx r x true Uc)(hk:LfS w' g a n cap K er')(hp:yZ (fun k=>k=g) w w')(he:er'=0↔er=0/\C=true)(hg:g<w0.heap.size):
  InS w0 w' g a n cap K er' gr gz gx r x C Uc:=
 h.call ⟨hk,h.k.i.keep hp (fun e=>h.k.ne e),h.k.ne,h.k.z,h.k.off⟩ (hp.weak fun k _ e=> .inl e) he hg
theorem xN{P:Program}{ops:Array Oper}{rest:List Oper}{o:Oper}{a:Act}{w:World}{Q:Exit->Act->World->Prop}(XF:Region.wanted o (yielded ops a.tmps)=true)(ty:TypeId)(x:Operand)(ho:o.op= .load ty x)
  (g:Nat) (hx:a.eval x= .pointer (some ⟨g,0,none⟩)) (t:TypeId) (cs:Array Value) (fr:Nat×Nat) (d:TypeDesc) (hg:w.heap[g]? =some (.cells cs t fr))
  (hu:P.underlying ty=some d) (hd:(match d with| .struct _| .array _ _=>true|_=>false)=true) (hi:(P.info? ty).map (·.size)=some cs.size)
  (h:wpList P ops Q rest (a.put o.dst (.agg cs)) w):wpList P ops Q (o::rest) a w:=by
 refine wpList_step fun K hK=> ?_
 rw[if_pos XF];exact wp_load_row ty x ho g hx t cs fr d hg hu hd hi (hK _ _ h)
theorem yZ.setrow{p:Nat->Prop}{w w1:World}(h:yZ p w w1){g:Nat}(hg:p g\/w.heap.size<=g)(cs:Array Value):yZ p w (w1.setRow g cs):=
 ⟨h.os,h.tape,h.output,by have:=h.size;simpa[World.setRow]using this,fun k hk hq=>by
  rw[<-h.block k hk hq];refine setRow_other w1 g k cs ?_;rintro rfl
  rcases hg with h1|h1
  ·exact hq h1
  omega⟩
theorem InS.done{w0 w:World}{g:Nat}{a:Option Addr}{n cap:Nat}{K:List KV}{er:Int}{gr gz gx:Nat}{r:RW}{x:IN}{C:Bool}{Uc:Int}(h:InS w0 w g a n cap K er gr gz gx r x C Uc)(h0:LfS w0 g a n cap K Uc)(cs:Array Value):
  LfR (.agg x.cells.toArray) g a n cap K Uc C w0 (.returned (.agg x.cells.toArray)) (w.setRow gz cs):=
 ⟨rfl,⟨er,h.e,h0.newer h.k.k Z5 ((yZ.refl _ _).setrow (.inl h.hz) cs)⟩,h.keep.setrow (.inr h.hz) cs⟩
theorem InS.turn{w0 w w':World}{g:Nat}{a:Option Addr}{n cap:Nat}{K:List KV}{er:Int}{gr gz gx:Nat}{r:RW}{x:IN}{C:Bool}{Uc:Int}(h:InS w0 w g a n cap K er gr gz gx r x C Uc)(hb:Below w.heap.size w w'):InS w0 w' g a n cap K er gr gz gx r x C Uc:=by
 obtain⟨z,hz⟩:=h.zero;exact⟨h.k.below hb,yW h.raw hb,⟨z,yW hz hb⟩,h.keep.trans (yZ.of hb),h.e,h.hr,h.hz,h.hx,h.nzx,h.nrx,h.nrz⟩
theorem D8v(w:World)(g:Nat)(a:Option Addr)(n cap:Nat)(K:List KV)(er:Int)(r:RW)(L:List RW)(b:Nat)(h:LfS w g a n cap K er)(hp:sU w b L)(hb:b≠g)(Zx:r.op<256)(Yw:xZ r.a)(hc:yX r.op=5\/yX r.op=6->0<=r.a/\r.a<1048576):
  Calls prog 55 #[.pointer (some ⟨g,0,none⟩),.agg #[.int .i64 r.pos,.int .u8 (r.op:Nat),.int .i64 r.a,.int .i64 r.b],.map (some b)] w (LfR (.agg (xT K L r).cells.toArray) g a n cap K er (ww K r) w):=by
 have H:=Z' h;have HP:=Z' hp;have Cu:=fun w=>qu w r.op Zx
 have Zu:=hp.lt;obtain⟨V,hV⟩:=Z8 (xT K L r);obtain⟨C,hC⟩:=Z8 (ww K r);have HV:=hV;have HC:=hC;unfold xT at HV;unfold ww at HC;rw[<-hV,<-hC];clear hV hC;obtain⟨f,hf⟩:=Z8 (yX r.op);rw[<-hf]at HV HC hc;have JN:∀w,Calls prog 102 #[.int .u8 (r.op:Nat)] w (rh (.int .i64 (f:Nat)) w):=fun w=>by rw[hf];exact Cu w
 have HF:=Z' JN
 have SA:InS w (((w.alloc (.cells r.cells.toArray 118)).alloc (.cells (⟨0,0,0,[],[],[],[]⟩:IN).cells.toArray yU)).alloc (.cells (yL r).cells.toArray yU)) g a n cap K er w.heap.size (w.heap.size+1) (w.heap.size+1+1) r (yL r) true er:=by
  have b1:=(((Below.refl w.heap.size w).alloc Z5 (.cells r.cells.toArray 118)).alloc (by simp) (.cells (⟨0,0,0,[],[],[],[]⟩:IN).cells.toArray yU)).alloc (by simp;omega) (.cells (yL r).cells.toArray yU);have h9:=h.lt;have h8:=h.g0
  have zG:wX a n (w.heap.size+1+1):=fun hn b off e hh=>by
   obtain⟨b',off',e2,ZX,_⟩:=h.ks.2 hn;rw[e]at e2
   cases e2
   omega
  refine⟨⟨h.below b1,?_,by omega,by omega,zG⟩,?_,⟨⟨0,0,0,[],[],[],[]⟩,?_⟩,yZ.of b1,by simp,by omega,by omega,by omega,by omega,by omega,by omega⟩
  ·unfold yJ;have:=heap_alloc_last ((w.alloc (.cells r.cells.toArray 118)).alloc (.cells (⟨0,0,0,[],[],[],[]⟩:IN).cells.toArray yU)) (.cells (yL r).cells.toArray yU);simpa using this
  ·rw[Below.heap_alloc _ _ _ (by simp;omega),Below.heap_alloc _ _ _ (by simp)];exact heap_alloc_last w _
  unfold yJ;rw[Below.heap_alloc _ _ _ (by simp)];have:=heap_alloc_last (w.alloc (.cells r.cells.toArray 118)) (.cells (⟨0,0,0,[],[],[],[]⟩:IN).cells.toArray yU);simpa using this
 have HI:=Z' SA;have Zm:=Z' HV;have ZE:=Z' HC;have Lw:=Z' hc;have Zi:=Z' Yw;clear h hp Cu JN HV HC hc Yw hf SA;go_enter func55,ntmps55
 go_upto_region 2 with fail
 change Hid (InS w (((w.alloc (.cells #[.int .i64 r.pos,.int .u8 (r.op:Nat),.int .i64 r.a,.int .i64 r.b] 118)).alloc (.cells #[.int .u8 0,.int .i64 0,.int .i64 0,.string ⟨#[]⟩,.string ⟨#[]⟩,.string ⟨#[]⟩,.string ⟨#[]⟩] 54)).alloc (.cells #[.int .u8 (r.op:Nat),.int .i64 0,.int .i64 0,.string ⟨#[]⟩,.string ⟨#[]⟩,.string ⟨#[]⟩,.string ⟨#[]⟩] 54)) g a n cap K er w.heap.size (w.heap.size+1) (w.heap.size+1+1) r (yL r) true er)at HI;generalize((w.alloc (.cells #[.int .i64 r.pos,.int .u8 (r.op:Nat),.int .i64 r.a,.int .i64 r.b] 118)).alloc (.cells #[.int .u8 0,.int .i64 0,.int .i64 0,.string ⟨#[]⟩,.string ⟨#[]⟩,.string ⟨#[]⟩,.string ⟨#[]⟩] 54)).alloc (.cells #[.int .u8 (r.op:Nat),.int .i64 0,.int .i64 0,.string ⟨#[]⟩,.string ⟨#[]⟩,.string ⟨#[]⟩,.string ⟨#[]⟩] 54)=W at HI⊢;have r1:=y8 HI.out.raw 1 rfl;dsimp[RW.cells]at r1
 go_wp2_with fail
 refine(HF.out W).mono ?_;rintro e w1 ⟨rfl,ZQ⟩;have Y9:=Z' (HI.out.turn ZQ);have Xs:=Z' (HP.out.keep Y9.out.keep hb);have Yd:w.heap.size<=w1.heap.size:=Y9.out.keep.size;have Ya:g<w.heap.size:=H.out.lt;have i0:=y8 Y9.out.k.i 0 rfl;have i1:=y8 Y9.out.k.i 1 rfl;have i2:=y8 Y9.out.k.i 2 rfl;have i3:=y8 Y9.out.k.i 3 rfl;have q1:=y8 Y9.out.raw 1 rfl;have q2:=y8 Y9.out.raw 2 rfl;have q3:=y8 Y9.out.raw 3 rfl;dsimp[RW.cells,IN.cells,yL]at i0 i1 i2 i3 q1 q2 q3;clear HI r1 ZQ HP HF Zx;obtain⟨-,-,-,-,-,-,-,f1,f2,f3,-,-,-⟩:=Y9.out.k.i.box;by_cases f7:f=7
 ·have e7:((f:Int)==7)=true:=by subst f7;rfl
  have Us:=Z' (Zm.out.trans (if_pos f7));have YF:=Z' (ZE.out.trans (if_pos f7));have VM:=E4t Xs.out r.a Zi.out;obtain rfl:C=true:=YF.out;clear f7 Zm ZE YF Lw
  go_upto_region 23 with fail
  have Zj:=Z' (Y9.out.put 1 _ (Y9.out.k.i.set1 (((wF L r.a).getD 0:Nat):Int)));obtain⟨z,hz⟩:=Zj.out.zero;have HZ:=Z' hz;clear hz;refine wp_region_lit ?_;refine xN rfl _ _ rfl _ rfl _ _ _ _ Zj.out.k.i underlying54 rfl yP ?_;refine wpList_store_row rfl _ _ _ rfl _ _ rfl rfl _ _ HZ.out yP rfl (xD _) ?_
  go_wp2_with fail
  refine bodyPost_ret (results_cell_row rfl _ _ (w.heap.size+1) yU (IN.cells _).toArray (0,0) _ rfl (setRow_heap _ _ _ _ _ _ HZ.out) underlying54 rfl yP) rfl ?_;rw[Us.out];exact Zj.out.done H.out _
 have e7:((f:Int)==7)=false:=by rw[beq_eq_false_iff_ne];omega
 replace Zm:=Z' (Zm.out.trans (if_neg f7));replace ZE:=Z' (ZE.out.trans (if_neg f7));by_cases f8:f=8
 ·have e8:((f:Int)==8)=true:=by subst f8;rfl
  have Us:=Z' (Zm.out.trans (if_pos f8));have YF:=Z' (ZE.out.trans (if_pos f8));obtain rfl:C=true:=YF.out;clear f7 f8 Zm ZE YF Lw Xs i0 i3 q1
  go_upto_region 7 with fail
  have QA:∀w':World,w'.heap[w.heap.size]? =some (.cells r.cells.toArray 118 (0,0))->w'.cell? ⟨w.heap.size,2,none⟩=some (.int .i64 r.a):=fun w' h=>y8 h 2 rfl
  have Qu:∀w':World,w'.heap[w.heap.size]? =some (.cells r.cells.toArray 118 (0,0))->w'.cell? ⟨w.heap.size,3,none⟩=some (.int .i64 r.b):=fun w' h=>y8 h 3 rfl
  have QH:=Z' (Y9.out.turn (Z6.drew));have Z3:w1.drew.heap[w.heap.size]? =some (.cells r.cells.toArray 118 (0,0)):=QH.out.raw;have FY:w1.drew.frozen? ⟨w.heap.size+1+1,1,none⟩=false:=QH.out.k.i.box.f1
  refine ye (fun wx=>wx.heap[w.heap.size]? =some (.cells r.cells.toArray 118 (0,0))) (.of [(0,true),(1,true),(2,true),(3,true),(4,true),(5,false),(6,true),(7,false)] (.stir [])) (by kernel_rfl) (by kernel_rfl) (fun c a d v w h=>by cases d<;>exact h) ?_
  iterate 5
   refine yY fun K hK=>tkF ?_
   go_simp
   try go_bits
   refine hK _ _ ?_;clear hK K
  have Zj:=Z' (QH.out.put 1 _ (QH.out.k.i.set1 r.a));refine yY fun K hK=>alF ?_
  go_step;have Sg:(w1.drew.setCell ⟨w.heap.size+1+1,1,none⟩ (.int .i64 r.a)).heap[w.heap.size]? =some (.cells r.cells.toArray 118 (0,0)):=Zj.out.raw;refine⟨Sg,hK _ _ ?_⟩;clear hK K Z3 FY QH Y9;have Z3:=Sg;clear Sg;have Fa:(w1.drew.setCell ⟨w.heap.size+1+1,1,none⟩ (.int .i64 r.a)).frozen? ⟨w.heap.size+1+1,2,none⟩=false:=Zj.out.k.i.box.f2
  iterate 1
   refine yY fun K hK=>tkF ?_
   go_simp
   try go_bits
   refine hK _ _ ?_;clear hK K
  have Qd:=Z' (Zj.out.put 2 _ (Zj.out.k.i.set2 r.b));refine yY fun K hK=>alF ?_
  go_step;have Tv:((w1.drew.setCell ⟨w.heap.size+1+1,1,none⟩ (.int .i64 r.a)).setCell ⟨w.heap.size+1+1,2,none⟩ (.int .i64 r.b)).heap[w.heap.size]? =some (.cells r.cells.toArray 118 (0,0)):=Qd.out.raw;refine⟨Tv,hK _ _ ?_⟩;clear hK K Z3 Fa Zj;refine yA (fun y=>y=(w1.drew.setCell ⟨w.heap.size+1+1,1,none⟩ (.int .i64 r.a)).setCell ⟨w.heap.size+1+1,2,none⟩ (.int .i64 r.b)) (fun y hy=>hy▸Tv) rfl ?_;refine yE (fun y hy=> ?_);subst hy;clear Tv QA Qu f1 f2 f3
  go_upto_region 23 with fail
  obtain⟨z,hz⟩:=Qd.out.zero;have HZ:=Z' hz;clear hz;refine wp_region_lit ?_;refine xN rfl _ _ rfl _ rfl _ _ _ _ Qd.out.k.i underlying54 rfl yP ?_;refine wpList_store_row rfl _ _ _ rfl _ _ rfl rfl _ _ HZ.out yP rfl (xD _) ?_
  go_wp2_with fail
  refine bodyPost_ret (results_cell_row rfl _ _ (w.heap.size+1) yU (IN.cells _).toArray (0,0) _ rfl (setRow_heap _ _ _ _ _ _ HZ.out) underlying54 rfl yP) rfl ?_;rw[Us.out];exact Qd.out.done H.out _
 have e8:((f:Int)==8)=false:=by rw[beq_eq_false_iff_ne];omega
 replace Zm:=Z' (Zm.out.trans (if_neg f8));replace ZE:=Z' (ZE.out.trans (if_neg f8));by_cases f5:f=5\/f=6
 ·obtain⟨a0,a1⟩:=Lw.out f5;obtain⟨at_,Yq⟩:=Z8 (r.a.toNat);have Yw:r.a=(at_:Int):=by omega
  have JU:at_<1048576:=by omega
  have Sc:=Z' (aZ w1 g a n cap K er (w.heap.size+1+1) (yL r) at_ JU Y9.out.k);have HRAT:=Z' Yw;rw[<-Yq]at Zm ZE;rw[<-Yw]at Sc;clear Yw Yq JU a0 a1;by_cases f6:f=5
  ·have e5:((f:Int)==5)=true:=by subst f6;rfl
   have Us:=Z' (Zm.out.trans (if_pos f6));have YF:=Z' (ZE.out.trans (if_pos f6));obtain rfl:C=xj (xG K (yL r) at_):=YF.out;clear f7 f8 f5 f6 Zm ZE YF Lw Xs i0 i1 i2 i3 q1 f1 f2 f3
   go_wp2_with fail
   refine Sc.out.mono ?_;rintro e w2 ⟨rfl,VY,k2⟩;have Zj:=Z' (Y9.out.call VY k2 (wh (by decide)) Ya);clear VY k2 Sc Y9 q2 q3
   go_upto_region 23 with fail
   obtain⟨z,hz⟩:=Zj.out.zero;have HZ:=Z' hz;clear hz;refine wp_region_lit ?_;refine xN rfl _ _ rfl _ rfl _ _ _ _ Zj.out.k.i underlying54 rfl yP ?_;refine wpList_store_row rfl _ _ _ rfl _ _ rfl rfl _ _ HZ.out yP rfl (xD _) ?_
   go_wp2_with fail
   refine bodyPost_ret (results_cell_row rfl _ _ (w.heap.size+1) yU (IN.cells _).toArray (0,0) _ rfl (setRow_heap _ _ _ _ _ _ HZ.out) underlying54 rfl yP) rfl ?_;rw[Us.out];exact Zj.out.done H.out _
  have e5:((f:Int)==5)=false:=by rw[beq_eq_false_iff_ne];omega
  have e6:((f:Int)==6)=true:=by rw[beq_iff_eq];omega
  replace Zm:=Z' (Zm.out.trans ((if_neg f6).trans (if_pos (show f=6 by omega))));replace ZE:=Z' (ZE.out.trans ((if_neg f6).trans (if_pos (show f=6 by omega))));clear f7 f8 f5 f6 Lw Xs i0 i1 i2 i3;by_cases Xp:r.op=20
  ·have Tg:((r.op:Int)==20)=true:=by rw[Xp];rfl
   have Us:=Z' (Zm.out.trans (if_pos Xp));have YF:=Z' (ZE.out.trans (if_pos Xp));obtain rfl:C=xj (xG K (yL r) at_):=YF.out;clear Xp Zm ZE YF f1 f2 f3
   go_wp2_with fail
   refine Sc.out.mono ?_;rintro e w2 ⟨rfl,VY,k2⟩;have Zj:=Z' (Y9.out.call VY k2 (wh (by decide)) Ya);clear VY k2 Sc Y9 q2 q3 q1
   go_upto_region 23 with fail
   obtain⟨z,hz⟩:=Zj.out.zero;have HZ:=Z' hz;clear hz;refine wp_region_lit ?_;refine xN rfl _ _ rfl _ rfl _ _ _ _ Zj.out.k.i underlying54 rfl yP ?_;refine wpList_store_row rfl _ _ _ rfl _ _ rfl rfl _ _ HZ.out yP rfl (xD _) ?_
   go_wp2_with fail
   refine bodyPost_ret (results_cell_row rfl _ _ (w.heap.size+1) yU (IN.cells _).toArray (0,0) _ rfl (setRow_heap _ _ _ _ _ _ HZ.out) underlying54 rfl yP) rfl ?_;rw[Us.out];exact Zj.out.done H.out _
  have Tg:((r.op:Int)==20)=false:=by rw[beq_eq_false_iff_ne];omega
  replace Zm:=Z' (Zm.out.trans (if_neg Xp));replace ZE:=Z' (ZE.out.trans (if_neg Xp));clear Sc Xp;have Zy:=Z' (fun t fis p FU hp=>bG w1 g a n cap K er (w.heap.size+1+1) (yL r) r.a t fis p FU hp Y9.out.k);by_cases Ve:r.op=178
  ·have TN:((r.op:Int)==178)=true:=by rw[Ve];rfl
   have hM:wK r.op=true:=by rw[Ve];rfl
   have Us:=Z' (Zm.out.trans (if_pos hM));have YF:=Z' (ZE.out.trans (if_pos hM));obtain rfl:C=vJ typeB K r.a 9:=YF.out;have Wy:=Z' (Zy.out 9 23 typeB (fun _ _=>rfl) (fun W s hs hv=>ub W s hs hv));clear hM Zm ZE YF Zy f1 f2 f3 Ve
   go_wp2_with fail
   refine Wy.out.mono ?_;rintro e w2 ⟨rfl,VY,k2⟩;have Zj:=Z' (Y9.out.call VY k2 (wh (by decide)) Ya);clear VY k2 Wy Y9 q2 q3 q1
   go_upto_region 23 with fail
   obtain⟨z,hz⟩:=Zj.out.zero;have HZ:=Z' hz;clear hz;refine wp_region_lit ?_;refine xN rfl _ _ rfl _ rfl _ _ _ _ Zj.out.k.i underlying54 rfl yP ?_;refine wpList_store_row rfl _ _ _ rfl _ _ rfl rfl _ _ HZ.out yP rfl (xD _) ?_
   go_wp2_with fail
   refine bodyPost_ret (results_cell_row rfl _ _ (w.heap.size+1) yU (IN.cells _).toArray (0,0) _ rfl (setRow_heap _ _ _ _ _ _ HZ.out) underlying54 rfl yP) rfl ?_;rw[Us.out];exact Zj.out.done H.out _
  have TN:((r.op:Int)==178)=false:=by rw[beq_eq_false_iff_ne];omega
  by_cases UZ:r.op=179
  ·have TT:((r.op:Int)==179)=true:=by rw[UZ];rfl
   have hM:wK r.op=true:=by rw[UZ];rfl
   have Us:=Z' (Zm.out.trans (if_pos hM));have YF:=Z' (ZE.out.trans (if_pos hM));obtain rfl:C=vJ typeB K r.a 9:=YF.out;have Wy:=Z' (Zy.out 9 23 typeB (fun _ _=>rfl) (fun W s hs hv=>ub W s hs hv));clear hM Zm ZE YF Zy f1 f2 f3 Ve UZ
   go_wp2_with fail
   refine Wy.out.mono ?_;rintro e w2 ⟨rfl,VY,k2⟩;have Zj:=Z' (Y9.out.call VY k2 (wh (by decide)) Ya);clear VY k2 Wy Y9 q2 q3 q1
   go_upto_region 23 with fail
   obtain⟨z,hz⟩:=Zj.out.zero;have HZ:=Z' hz;clear hz;refine wp_region_lit ?_;refine xN rfl _ _ rfl _ rfl _ _ _ _ Zj.out.k.i underlying54 rfl yP ?_;refine wpList_store_row rfl _ _ _ rfl _ _ rfl rfl _ _ HZ.out yP rfl (xD _) ?_
   go_wp2_with fail
   refine bodyPost_ret (results_cell_row rfl _ _ (w.heap.size+1) yU (IN.cells _).toArray (0,0) _ rfl (setRow_heap _ _ _ _ _ _ HZ.out) underlying54 rfl yP) rfl ?_;rw[Us.out];exact Zj.out.done H.out _
  have TT:((r.op:Int)==179)=false:=by rw[beq_eq_false_iff_ne];omega
  by_cases Uk:r.op=180
  ·have TH:((r.op:Int)==180)=true:=by rw[Uk];rfl
   have hM:wK r.op=true:=by rw[Uk];rfl
   have Us:=Z' (Zm.out.trans (if_pos hM));have YF:=Z' (ZE.out.trans (if_pos hM));obtain rfl:C=vJ typeB K r.a 9:=YF.out;have Wy:=Z' (Zy.out 9 23 typeB (fun _ _=>rfl) (fun W s hs hv=>ub W s hs hv));clear hM Zm ZE YF Zy f1 f2 f3 Ve UZ Uk
   go_wp2_with fail
   refine Wy.out.mono ?_;rintro e w2 ⟨rfl,VY,k2⟩;have Zj:=Z' (Y9.out.call VY k2 (wh (by decide)) Ya);clear VY k2 Wy Y9 q2 q3 q1
   go_upto_region 23 with fail
   obtain⟨z,hz⟩:=Zj.out.zero;have HZ:=Z' hz;clear hz;refine wp_region_lit ?_;refine xN rfl _ _ rfl _ rfl _ _ _ _ Zj.out.k.i underlying54 rfl yP ?_;refine wpList_store_row rfl _ _ _ rfl _ _ rfl rfl _ _ HZ.out yP rfl (xD _) ?_
   go_wp2_with fail
   refine bodyPost_ret (results_cell_row rfl _ _ (w.heap.size+1) yU (IN.cells _).toArray (0,0) _ rfl (setRow_heap _ _ _ _ _ _ HZ.out) underlying54 rfl yP) rfl ?_;rw[Us.out];exact Zj.out.done H.out _
  have TH:((r.op:Int)==180)=false:=by rw[beq_eq_false_iff_ne];omega
  by_cases TS:r.op=181
  ·have TR:((r.op:Int)==181)=true:=by rw[TS];rfl
   have hM:wK r.op=true:=by rw[TS];rfl
   have Us:=Z' (Zm.out.trans (if_pos hM));have YF:=Z' (ZE.out.trans (if_pos hM));obtain rfl:C=vJ typeB K r.a 9:=YF.out;have Wy:=Z' (Zy.out 9 23 typeB (fun _ _=>rfl) (fun W s hs hv=>ub W s hs hv));clear hM Zm ZE YF Zy f1 f2 f3 Ve UZ Uk TS
   go_wp2_with fail
   refine Wy.out.mono ?_;rintro e w2 ⟨rfl,VY,k2⟩;have Zj:=Z' (Y9.out.call VY k2 (wh (by decide)) Ya);clear VY k2 Wy Y9 q2 q3 q1
   go_upto_region 23 with fail
   obtain⟨z,hz⟩:=Zj.out.zero;have HZ:=Z' hz;clear hz;refine wp_region_lit ?_;refine xN rfl _ _ rfl _ rfl _ _ _ _ Zj.out.k.i underlying54 rfl yP ?_;refine wpList_store_row rfl _ _ _ rfl _ _ rfl rfl _ _ HZ.out yP rfl (xD _) ?_
   go_wp2_with fail
   refine bodyPost_ret (results_cell_row rfl _ _ (w.heap.size+1) yU (IN.cells _).toArray (0,0) _ rfl (setRow_heap _ _ _ _ _ _ HZ.out) underlying54 rfl yP) rfl ?_;rw[Us.out];exact Zj.out.done H.out _
  have TR:((r.op:Int)==181)=false:=by rw[beq_eq_false_iff_ne];omega
  have hM:wK r.op=false:=by simp[wK,Ve,UZ,Uk,TS]
  replace Zm:=Z' (Zm.out.trans (if_neg (by rw[hM];decide)));replace ZE:=Z' (ZE.out.trans (if_neg (by rw[hM];decide)));clear hM Ve UZ Uk TS;by_cases Uq:r.op=182
  ·have TK:((r.op:Int)==182)=true:=by rw[Uq];rfl
   have hM:vB r.op=true:=by rw[Uq];rfl
   have Us:=Z' (Zm.out.trans (if_pos hM));have YF:=Z' (ZE.out.trans (if_pos hM));obtain rfl:C=vJ xY K r.a 10:=YF.out;have Wy:=Z' (Zy.out 10 52 xY (fun _ _=>rfl) (fun W s hs hv=>rx W s hs hv));clear hM Zm ZE YF Zy f1 f2 f3 Uq
   go_wp2_with fail
   refine Wy.out.mono ?_;rintro e w2 ⟨rfl,VY,k2⟩;have Zj:=Z' (Y9.out.call VY k2 (wh (by decide)) Ya);clear VY k2 Wy Y9 q2 q3 q1
   go_upto_region 23 with fail
   obtain⟨z,hz⟩:=Zj.out.zero;have HZ:=Z' hz;clear hz;refine wp_region_lit ?_;refine xN rfl _ _ rfl _ rfl _ _ _ _ Zj.out.k.i underlying54 rfl yP ?_;refine wpList_store_row rfl _ _ _ rfl _ _ rfl rfl _ _ HZ.out yP rfl (xD _) ?_
   go_wp2_with fail
   refine bodyPost_ret (results_cell_row rfl _ _ (w.heap.size+1) yU (IN.cells _).toArray (0,0) _ rfl (setRow_heap _ _ _ _ _ _ HZ.out) underlying54 rfl yP) rfl ?_;rw[Us.out];exact Zj.out.done H.out _
  have TK:((r.op:Int)==182)=false:=by rw[beq_eq_false_iff_ne];omega
  by_cases TV:r.op=184
  ·have TY:((r.op:Int)==184)=true:=by rw[TV];rfl
   have hM:vB r.op=true:=by rw[TV];rfl
   have Us:=Z' (Zm.out.trans (if_pos hM));have YF:=Z' (ZE.out.trans (if_pos hM));obtain rfl:C=vJ xY K r.a 10:=YF.out;have Wy:=Z' (Zy.out 10 52 xY (fun _ _=>rfl) (fun W s hs hv=>rx W s hs hv));clear hM Zm ZE YF Zy f1 f2 f3 Uq TV
   go_wp2_with fail
   refine Wy.out.mono ?_;rintro e w2 ⟨rfl,VY,k2⟩;have Zj:=Z' (Y9.out.call VY k2 (wh (by decide)) Ya);clear VY k2 Wy Y9 q2 q3 q1
   go_upto_region 23 with fail
   obtain⟨z,hz⟩:=Zj.out.zero;have HZ:=Z' hz;clear hz;refine wp_region_lit ?_;refine xN rfl _ _ rfl _ rfl _ _ _ _ Zj.out.k.i underlying54 rfl yP ?_;refine wpList_store_row rfl _ _ _ rfl _ _ rfl rfl _ _ HZ.out yP rfl (xD _) ?_
   go_wp2_with fail
   refine bodyPost_ret (results_cell_row rfl _ _ (w.heap.size+1) yU (IN.cells _).toArray (0,0) _ rfl (setRow_heap _ _ _ _ _ _ HZ.out) underlying54 rfl yP) rfl ?_;rw[Us.out];exact Zj.out.done H.out _
  have TY:((r.op:Int)==184)=false:=by rw[beq_eq_false_iff_ne];omega
  have hM:vB r.op=false:=by simp[vB,Uq,TV]
  replace Zm:=Z' (Zm.out.trans (if_neg (by rw[hM];decide)));replace ZE:=Z' (ZE.out.trans (if_neg (by rw[hM];decide)));clear hM Uq TV
  have FV:((r.op:Int) !=187)=decide (r.op≠187):=by
   rw[Bool.eq_iff_iff];simp;omega
  have Y4:=Z' (qD w1 g a n cap K er r.a (decide (r.op≠187)) Y9.out.k.k);obtain rfl:C=aclsB K r.a (decide (r.op≠187)):=ZE.out;generalize decide (r.op≠187)=dc at*;clear ZE Zy f1 f2 f3
  go_wp2_with fail
  refine Y4.out.mono ?_;rintro e w2 ⟨rfl,VY,k2⟩;have Zj:=Z' (Y9.out.calln VY k2 (wh (by decide)) Ya);have f3:=Zj.out.k.i.box.f3;have c3:=Zj.out.k.i.box.c3;clear VY k2 Y4 Y9 q2 q3 q1
  go_upto_region 23 with fail
  have Qd:=Z' (Zj.out.put 3 _ (Zj.out.k.i.set3 (yQ K r.a).1));obtain⟨z,hz⟩:=Qd.out.zero;have HZ:=Z' hz;clear hz;refine wp_region_lit ?_;refine xN rfl _ _ rfl _ rfl _ _ _ _ Qd.out.k.i underlying54 rfl yP ?_;refine wpList_store_row rfl _ _ _ rfl _ _ rfl rfl _ _ HZ.out yP rfl (xD _) ?_
  go_wp2_with fail
  refine bodyPost_ret (results_cell_row rfl _ _ (w.heap.size+1) yU (IN.cells _).toArray (0,0) _ rfl (setRow_heap _ _ _ _ _ _ HZ.out) underlying54 rfl yP) rfl ?_;rw[Zm.out];exact Qd.out.done H.out _
 have e5:((f:Int)==5)=false:=by rw[beq_eq_false_iff_ne];omega
 have e6:((f:Int)==6)=false:=by rw[beq_eq_false_iff_ne];omega
 replace Zm:=Z' (Zm.out.trans ((if_neg (show ¬f=5 by omega)).trans (if_neg (show ¬f=6 by omega))));replace ZE:=Z' (ZE.out.trans ((if_neg (show ¬f=5 by omega)).trans (if_neg (show ¬f=6 by omega))));obtain rfl:C=true:=ZE.out;clear f7 f8 f5 ZE Lw Xs
 go_upto_region 23 with fail
 have Zj:=Z' (Y9.out.put 1 _ (Y9.out.k.i.set1 r.a));obtain⟨z,hz⟩:=Zj.out.zero;have HZ:=Z' hz;clear hz;refine wp_region_lit ?_;refine xN rfl _ _ rfl _ rfl _ _ _ _ Zj.out.k.i underlying54 rfl yP ?_;refine wpList_store_row rfl _ _ _ rfl _ _ rfl rfl _ _ HZ.out yP rfl (xD _) ?_
 go_wp2_with fail
 refine bodyPost_ret (results_cell_row rfl _ _ (w.heap.size+1) yU (IN.cells _).toArray (0,0) _ rfl (setRow_heap _ _ _ _ _ _ HZ.out) underlying54 rfl yP) rfl ?_;rw[Zm.out];exact Zj.out.done H.out _
structure UT where
 fr:Int
 tt:Int
 pl:Int
 cl:List UInt8
def UT.cells(t:UT):List Value:=[.int .i64 t.fr,.int .i64 t.tt,.int .i64 t.pl,.string ⟨t.cl.toArray⟩]
theorem UT.cells_length(t:UT):t.cells.length=4:=rfl
structure UP where
 pl:Int
 la:Option Addr
 ln:Nat
 lc:Nat
 loc:List (List UInt8)
 sa:Option Addr
 sn:Nat
 sc:Nat
 stk:List (List UInt8)
def UP.cells(p:UP):List Value:=[.int .i64 p.pl,.slice p.la p.ln p.lc,.slice p.sa p.sn p.sc]
theorem UP.cells_length(p:UP):p.cells.length=3:=rfl
def UP.p(p:UP):UP:=⟨p.pl,none,0,0,p.loc,none,0,0,p.stk⟩
structure UP.Rd(p:UP)(w:World):Prop where
 loc:Sl xX w p.la p.ln p.loc
 stk:Sl xX w p.sa p.sn p.stk
theorem UP.Rd.below{p:UP}{w w':World}(h:p.Rd w)(hb:Below w.heap.size w w'):p.Rd w':=⟨h.loc.below hb,h.stk.below hb⟩
structure UP.Own(p:UP)(w:World)(B:Nat):Prop where
 loc:w.ownsRow B 9 1 (.slice p.la p.ln p.lc) p.ln (p.loc.map xX)
 stk:w.ownsRow B 9 1 (.slice p.sa p.sn p.sc) p.sn (p.stk.map xX)
theorem UP.Own.mono{p:UP}{w:World}{B B':Nat}(h:p.Own w B)(hB:B'<=B):p.Own w B':=⟨wg h.loc hB,wg h.stk hB⟩
theorem UP.Own.keepP{p:UP}{q:Nat->Prop}{w w':World}{B:Nat}(h:p.Own w B)(k:yZ q w w')(hq:∀x,q x->x<B\/w.heap.size<=x):p.Own w' B:=⟨tY h.loc k hq,tY h.stk k hq⟩
theorem UP.Own.keptT{p:UP}{w w':World}{B:Nat}{e:TypeId}(h:p.Own w B)(k:yd e w w')(ZF:9≠e):p.Own w' B:=⟨xA h.loc k ZF,xA h.stk k ZF⟩
theorem UP.Own.rd{p:UP}{w:World}{B:Nat}(h:p.Own w B):p.Rd w:=by
 obtain⟨a,c,e,hs,_⟩:=Sl.ofOwn h.loc;obtain⟨a',c',e',RB,_⟩:=Sl.ofOwn h.stk
 cases e
 cases e'
 exact⟨hs,RB⟩
structure UM where
 st:Bool
 nm:List UInt8
 ds:List UInt8
 sk:Int
 lo:Int
 ca:Option Addr
 cn:Nat
 cc:Nat
 code:List IN
 ta:Option Addr
 tn:Nat
 tc:Nat
 traps:List UT
 ma:Option Addr
 mn:Nat
 mc:Nat
 maps:List UP
def UM.cells(m:UM):List Value:=[.bool m.st,.string ⟨m.nm.toArray⟩,.string ⟨m.ds.toArray⟩,.int .i64 m.sk,.int .i64 m.lo,.slice m.ca m.cn m.cc,.slice m.ta m.tn m.tc,.slice m.ma m.mn m.mc]
theorem UM.cells_length(m:UM):m.cells.length=8:=rfl
def UM.p(m:UM):UM:=⟨m.st,m.nm,m.ds,m.sk,m.lo,none,0,0,m.code,none,0,0,m.traps,none,0,0,m.maps.map UP.p⟩
structure UM.Rd(m:UM)(w:World):Prop where
 code:Ss 7 IN.cells w m.ca m.cn m.code
 traps:Ss 4 UT.cells w m.ta m.tn m.traps
 maps:Ss 3 UP.cells w m.ma m.mn m.maps
 each:∀p∈m.maps,p.Rd w
theorem UM.Rd.below{m:UM}{w w':World}(h:m.Rd w)(hb:Below w.heap.size w w'):m.Rd w':=⟨h.code.below hb,h.traps.below hb,h.maps.below hb,fun p hp=>(h.each p hp).below hb⟩
structure UM.Own(m:UM)(w:World)(B:Nat):Prop where
 code:w.ownsRow B 54 7 (.slice m.ca m.cn m.cc) m.cn (m.code.flatMap IN.cells)
 traps:w.ownsRow B 85 4 (.slice m.ta m.tn m.tc) m.tn (m.traps.flatMap UT.cells)
 maps:w.ownsRow B 88 3 (.slice m.ma m.mn m.mc) m.mn (m.maps.flatMap UP.cells)
 each:∀p∈m.maps,p.Own w B
theorem UM.Own.mono{m:UM}{w:World}{B B':Nat}(h:m.Own w B)(hB:B'<=B):m.Own w B':=⟨wg h.code hB,wg h.traps hB,wg h.maps hB,fun p hp=>(h.each p hp).mono hB⟩
theorem UM.Own.keepP{m:UM}{q:Nat->Prop}{w w':World}{B:Nat}(h:m.Own w B)(k:yZ q w w')(hq:∀x,q x->x<B\/w.heap.size<=x):m.Own w' B:=⟨tY h.code k hq,tY h.traps k hq,tY h.maps k hq,fun p hp=>(h.each p hp).keepP k hq⟩
theorem UM.Own.keptT{m:UM}{w w':World}{B:Nat}{e:TypeId}(h:m.Own w B)(k:yd e w w')(h1:54≠e)(h2:85≠e)(h3:88≠e)(h4:9≠e):m.Own w' B:=⟨xA h.code k h1,xA h.traps k h2,xA h.maps k h3,fun p hp=>(h.each p hp).keptT k h4⟩
theorem UM.Own.rd{m:UM}{w:World}{B:Nat}(h:m.Own w B):m.Rd w:=by
 obtain⟨a,c,e,hs,_⟩:=Ss.ofOwn IN.cells_length (by decide) h.code;obtain⟨a',c',e',RB,_⟩:=Ss.ofOwn UT.cells_length (by decide) h.traps;obtain⟨a'',c'',e'',Mv,_⟩:=Ss.ofOwn UP.cells_length (by decide) h.maps
 cases e
 cases e'
 cases e''
 exact⟨hs,RB,Mv,fun p hp=>(h.each p hp).rd⟩
structure UF where
 st:Bool
 nm:List UInt8
 ds:List UInt8
def UF.cells(f:UF):List Value:=[.bool f.st,.string ⟨f.nm.toArray⟩,.string ⟨f.ds.toArray⟩]
theorem UF.cells_length(f:UF):f.cells.length=3:=rfl
structure UU where
 nm:List UInt8
 su:List UInt8
 fa:Option Addr
 fn:Nat
 fc:Nat
 fields:List UF
 ma:Option Addr
 mn:Nat
 mc:Nat
 methods:List UM
def UU.cells(u:UU):List Value:=[.string ⟨u.nm.toArray⟩,.string ⟨u.su.toArray⟩,.slice u.fa u.fn u.fc,.slice u.ma u.mn u.mc]
def UU.p(u:UU):UU:=⟨u.nm,u.su,none,0,0,u.fields,none,0,0,u.methods.map UM.p⟩
structure UU.Rd(u:UU)(w:World):Prop where
 fields:Ss 3 UF.cells w u.fa u.fn u.fields
 methods:Ss 8 UM.cells w u.ma u.mn u.methods
 each:∀m∈u.methods,m.Rd w
theorem UU.Rd.below{u:UU}{w w':World}(h:u.Rd w)(hb:Below w.heap.size w w'):u.Rd w':=⟨h.fields.below hb,h.methods.below hb,fun m hm=>(h.each m hm).below hb⟩
structure UU.Own(u:UU)(w:World)(B:Nat):Prop where
 fields:w.ownsRow B 52 3 (.slice u.fa u.fn u.fc) u.fn (u.fields.flatMap UF.cells)
 methods:w.ownsRow B 59 8 (.slice u.ma u.mn u.mc) u.mn (u.methods.flatMap UM.cells)
 each:∀m∈u.methods,m.Own w B
theorem UU.Own.rd{u:UU}{w:World}{B:Nat}(h:u.Own w B):u.Rd w:=by
 obtain⟨a,c,e,hs,_⟩:=Ss.ofOwn UF.cells_length (by decide) h.fields;obtain⟨a',c',e',RB,_⟩:=Ss.ofOwn UM.cells_length (by decide) h.methods
 cases e
 cases e'
 exact⟨hs,RB,fun p hp=>(h.each p hp).rd⟩
theorem kh:StE 55 54 (.agg #[.int .u8 0,.int .i64 0,.int .i64 0,.string ⟨#[]⟩,.string ⟨#[]⟩,.string ⟨#[]⟩,.string ⟨#[]⟩]) 7 88:=⟨by kernel_rfl,by kernel_rfl,rfl⟩
theorem kK:StE 56 85 (.agg #[.int .i64 0,.int .i64 0,.int .i64 0,.string ⟨#[]⟩]) 4 40:=⟨by kernel_rfl,by kernel_rfl,rfl⟩
theorem kf:StE 57 88 (.agg #[.int .i64 0,.slice none 0 0,.slice none 0 0]) 3 56:=⟨by kernel_rfl,by kernel_rfl,rfl⟩
theorem kH:StE 30 59 (.agg #[.bool false,.string ⟨#[]⟩,.string ⟨#[]⟩,.int .i64 0,.int .i64 0,.slice none 0 0,.slice none 0 0,.slice none 0 0]) 8 128:=⟨by kernel_rfl,by kernel_rfl,rfl⟩
theorem eX:StE 29 52 (.agg #[.bool false,.string ⟨#[]⟩,.string ⟨#[]⟩]) 3 40:=⟨by kernel_rfl,by kernel_rfl,rfl⟩
def vU(K:List KV)(L:List RW)(cn:Nat)(t:KT):UT:=⟨(plV L cn t.fr false:Nat),(plV L cn t.tt true:Nat),(plV L cn t.pl false:Nat),if t.cl=0 then []else(yQ K t.cl).1⟩
def vq(K:List KV)(L:List RW)(cn:Nat)(t:KT):Bool:=plC L cn t.fr false&&(plC L cn t.tt true&&(plC L cn t.pl false&&(decide (t.cl=0)||aclsB K t.cl false)))
def uM(K:List KV)(L:List RW)(cn:Nat)(p:KP):UP:=⟨(plV L cn p.pl false:Nat),none,0,0,p.loc.map (yD K),none,0,0,p.stk.map (yD K)⟩
def vj(K:List KV)(L:List RW)(cn:Nat)(p:KP):Bool:=plC L cn p.pl false&&(p.loc.all (xa K)&&p.stk.all (xa K))
def vC(K:List KV)(m:KM):UM:=
 ⟨decide (m.fl=8),yN K m.nm,yN K m.ds,m.st,m.lo,none,0,0,(xW m.code).2.map (xT K (xW m.code).2),none,0,0,m.traps.map (vU K (xW m.code).2 m.cn),none,0,0,m.maps.map (uM K (xW m.code).2 m.cn)⟩
def vL(K:List KV)(m:KM):Bool:=
 (yk (yN K m.nm)&&xY (yN K m.ds))&&(decide ((xW m.code).1=0)&&((xW m.code).2.all (ww K)&&(m.traps.all (vq K (xW m.code).2 m.cn)&&m.maps.all (vj K (xW m.code).2 m.cn))))
abbrev yT:=59
structure sK(D W:World)(gk gm gl ga gz g go:Nat)(m:KM)(la:Option Addr)(ln lc:Nat)(L:List RW)(b:Nat)(z:UM):Prop where
 s:kA W gm gl ga gk g m la ln lc L b
 z:W.heap[gz]? =some (.cells z.cells.toArray yT (0,0))
 rs:Rs W la ln L
 og:wX la ln g
 oo:wX la ln go
 d:m.Rd D
 db:Below D.heap.size D W
 dg:D.heap.size<=g
 dgo:D.heap.size<=go
 ms:gm≠go
 ls:gl≠go
 am:ga≠go
 ks:gk≠go
 zs:gz≠go
 bs:b≠go
 zg:gz≠g
 gg:g<W.heap.size
 gs:go<W.heap.size
 ne:go≠g
abbrev GG(g go:Nat):Nat->Prop:=fun k=>k=g\/k=go
section
variable {D W w:World} {gk gm gl ga gz g go:Nat} {m:KM} {la:Option Addr} {ln lc:Nat} {L:List RW} {b:Nat} {z:UM}
theorem sK.see(h:sK D W gk gm gl ga gz g go m la ln lc L b z)(k:yZ (GG g go) W w):kA w gm gl ga gk g m la ln lc L b:=by
 have key:∀(x:Nat) (o:Obj),W.heap[x]? =some o->x≠g->x≠go->¬GG g go x:=fun x o _ h1 h2 hp=>by
  rcases hp with h3|h3
  ·exact h1 h3
  exact h2 h3
 refine⟨k.row h.s.m (key _ _ h.s.m h.s.nm h.ms),k.row h.s.l (key _ _ h.s.l h.s.nl h.ls),k.row h.s.a (key _ _ h.s.a h.s.na h.am),k.row h.s.k (key _ _ h.s.k h.s.nk h.ks),?_,h.s.len,h.s.nm,h.s.nl,h.s.na,h.s.nk,h.s.nb⟩;obtain⟨es,clock,hb,_⟩:=h.s.p;exact h.s.p.keep k (key _ _ hb h.s.nb h.bs)
theorem sK.zw(h:sK D W gk gm gl ga gz g go m la ln lc L b z)(k:yZ (GG g go) W w):w.heap[gz]? =some (.cells z.cells.toArray yT (0,0)):=
 k.row h.z (fun hp=>by rcases hp with h3|h3;exact h.zg h3;exact h.zs h3)
theorem sK.rsw(h:sK D W gk gm gl ga gz g go m la ln lc L b z)(k:yZ (GG g go) W w):Rs w la ln L:=
 k.ss h.rs (fun hn b off e hp=>by rcases hp with h3|h3;exact h.og hn b off e h3;exact h.oo hn b off e h3)
theorem sK.rd(h:sK D W gk gm gl ga gz g go m la ln lc L b z)(k:yZ (GG g go) W w):m.Rd w:=
 h.d.below (k.below h.db Z5 (fun x hx=>by rcases hx with rfl|rfl;exact h.dg;exact h.dgo))
end
structure vk(W w:World)(g go:Nat)(a:Option Addr)(n cap:Nat)(K:List KV)(er:Int)(x:UM):Prop where
 l:LfS w g a n cap K er
 k:yZ (GG g go) W w
 o:w.heap[go]? =some (.cells x.cells.toArray yT (0,0))
 w:x.Own w W.heap.size
section
variable {W w w9:World} {g go:Nat} {a:Option Addr} {n cap:Nat} {K:List KV} {er er':Int} {x:UM}
theorem vk.below(h:vk W w g go a n cap K er x)(hb:Below w.heap.size w w9):vk W w9 g go a n cap K er x:=
 ⟨h.l.below hb,h.k.trans (yZ.of hb),yW h.o hb,h.w.keepP (yZ.of (p:=fun _=>False) hb) (fun _ hx=>hx.elim)⟩
theorem vk.call(h:vk W w g go a n cap K er x)(hl:LfS w9 g a n cap K er')(hk:yZ (fun k=>k=g) w w9)(hg:g<W.heap.size)(ZF:go≠g):vk W w9 g go a n cap K er' x:=
 ⟨hl,h.k.trans (hk.weak fun _ _ e=> .inl e),hk.row h.o ZF,h.w.keepP hk (fun y hy=> .inl (by rw[hy];exact hg))⟩
theorem vk.new(h:vk W w g go a n cap K er x)(hl:LfS w9 g a n cap K er')(hk:yZ (fun k=>k=g\/w.heap.size<=k) w w9)(hg:g<W.heap.size)(ZF:go≠g):vk W w9 g go a n cap K er' x:=
 ⟨hl,h.k.trans (hk.weak fun k hk e=>by rcases e with e|e;exact .inl e;have:=h.k.size;omega),hk.row h.o (fun e=>by rcases e with e|e;exact ZF e;have:=yG h.o;omega),h.w.keepP hk (fun y hy=>by rcases hy with hy|hy;exact .inl (by rw[hy];exact hg);exact .inr hy)⟩
theorem vk.app{e:TypeId}(h0:LfS W g a n cap K er')(h:vk W w g go a n cap K er x)(hB:yZ (fun k=>W.heap.size<=k) w w9)(ht:yd e w w9)(P7:yT≠e)(o:Nat)(v:Value)(x':UM)
  (hc:x'.cells.toArray=x.cells.toArray.setIfInBounds o v) (WX:go<W.heap.size) (ZF:go≠g)
  (hw:x'.Own w9 W.heap.size) (PN:0<go) (QD:wX a n go):vk W (w9.setCell ⟨go,o,none⟩ v) g go a n cap K er x':=by
 have LC:LfS w9 g a n cap K er:=h0.newer h.l Z5 hB;have ZU:yZ (GG g go) W w9:=h.k.new hB;have hs:yZ (fun k=>k=go) w9 (w9.setCell ⟨go,o,none⟩ v):=yZ.set (yZ.refl (fun k=>k=go) w9) (.inl rfl) o v;have P8:=ht.2 _ _ _ _ h.o P7;refine⟨LC.keep hs (fun e=>ZF e.symm) (fun e=>by omega) (fun hn b off e e2=>QD hn b off e e2),ZU.trans (hs.weak fun _ _ e=> .inr e),?_,hw.keepP hs (fun y hy=> .inl (by rw[hy];exact WX))⟩;have:=wZ P8 o v;rw[hc];exact this
theorem _root_.Go.Proofs.YtclpkipaehpkdaaGreatDoor.LfS.app9{e:TypeId}{x':UM}(h0:LfS W g a n cap K er')(h:vk W w g go a n cap K er x)(hB:yZ (fun k=>W.heap.size<=k) w w9)(ht:yd e w w9)(hw:x'.Own w9 W.heap.size)(WX:go<W.heap.size)(ZF:go≠g)(PN:0<go)(QD:wX a n go)(P7:yT≠e:=by decide):
  yZ (GG g go) W w9/\w9.heap[go]? =some (.cells x.cells.toArray yT (0,0))/\∀(o:Nat) (v:Value),x'.cells.toArray=x.cells.toArray.setIfInBounds o v->vk W (w9.setCell ⟨go,o,none⟩ v) g go a n cap K er x':=
 ⟨h.k.new hB,ht.2 _ _ _ _ h.o P7,fun o v hc=>vk.app h0 h hB ht P7 o v x' hc WX ZF hw PN QD⟩
end
def eqK(c k:KV):Bool:=decide (k.tag=c.tag/\k.a=c.a/\k.b=c.b/\k.n=c.n/\k.s=c.s)
theorem tb{c k:KV}:eqK c k=true↔k=c:=by
 unfold eqK;rw[decide_eq_true_iff];obtain⟨a1,a2,a3,a4,a5⟩:=k;obtain⟨b1,b2,b3,b4,b5⟩:=c;simp[KV.mk.injEq]
def vY(l:List KV)(c:KV):Option Nat:=l.findIdx? (eqK c)
def xR(l:List KV)(c:KV):List KV:=(l++[c])++(if c.tag=5 then [kz]else [])
structure LW where
 l:List KV
 e:Int
def LW.need(s:LW)(ok:Bool)(k:Int):LW:=⟨s.l,yj s.e ok k⟩
def LW.put(s:LW)(c:KV):LW×Nat:=match vY s.l c with
 |some i=>(s,i)
 |none=>((⟨xR s.l c,s.e⟩:LW).need (decide ((xR s.l c).length<=1024)) 9,s.l.length)
def LW.text(s:LW)(t:List UInt8):LW×Nat:=s.put ⟨1,0,0,0,t⟩
def LW.cls(s:LW)(t:List UInt8)(arr:Bool):LW×Nat:=
 (((s.need (classB t||(arr&&x6 t)) 8).text t).1).put ⟨7,(((s.need (classB t||(arr&&x6 t)) 8).text t).2:Nat),0,0,[]⟩
def LW.member(s:LW)(x:IN)(tag:Int)(p:List UInt8->Bool):LW×Nat:=
 let c:=(s.need (yk x.nm&&p x.ds) 8).cls x.cl false
 let n:=c.1.text x.nm
 let d:=n.1.text x.ds
 let b:=d.1.put ⟨12,(n.2:Nat),(d.2:Nat),0,[]⟩
 b.1.put ⟨tag,(c.2:Nat),(b.2:Nat),0,[]⟩
def vu(n:Int):Bool:=decide (-2147483648<=n/\n<=2147483647)
def LW.con(s:LW)(x:IN):LW×Nat:=
 if x.ds=[73]/\x.op=18/\x.tx=[]then(s.need (vu x.n) 8).put ⟨3,0,0,x.n,[]⟩
 else if x.ds=[83]/\x.op=18/\x.n=0 then((s.text x.tx).1).put ⟨8,((s.text x.tx).2:Nat),0,0,[]⟩
 else if x.ds=[74]/\x.op=20/\x.tx=[]then s.put ⟨5,0,0,x.n,[]⟩
 else(s.need false 8,0)
def sR(x:IN):Bool:=decide ((x.m=0\/yX x.op=8)/\x.cl=[]/\x.nm=[]/\x.ds=[]/\x.tx=[])
def xx(x:IN):Bool:=decide (x.n=0/\x.m=0/\x.tx=[])
def tQ(x:IN):Bool:=decide (x.n=0/\x.m=0/\x.nm=[]/\x.ds=[]/\x.tx=[])
def LW.wide(s:LW)(x:IN):LW×Nat:=
 if wK x.op then(s.need (xx x) 8).member x 9 typeB
 else if vB x.op then(s.need (xx x) 8).member x 10 xY
 else(s.need (tQ x) 8).cls x.cl (decide (x.op≠187))
def vP(n:Int):Int:=(n+2147483648)%4294967296-2147483648
def LW.small(s:LW)(n:Int):LW×Int:=(s.need (vu n) 8,vP n)
def LW.raw(s:LW)(p:Nat)(x:IN):LW×RW:=
 if x.op=18\/x.op=20 then
  let c:=(s.need (decide (x.cl=[]/\x.nm=[]/\x.m=0)) 8).con x
  (c.1.need (decide (yX x.op≠5)||decide (c.2<=255)) 9,⟨p,x.op,(c.2:Nat),0⟩)
 else if yX x.op=6 then((s.wide x).1,⟨p,x.op,((s.wide x).2:Nat),0⟩)
 else if yX x.op=0 then(s.need false 8,⟨p,x.op,0,0⟩)
 else(((s.need (sR x) 8).small x.n).1,⟨p,x.op,vP x.n,x.m⟩)
def vH(x:IN):Nat:=yC (yX x.op)
def LW.raws(s:LW)(p:Nat):List IN->LW×List RW
 |[]=>(s,[])
 |x::l=>(((s.raw p x).1.raws (p+vH x) l).1,(s.raw p x).2::((s.raw p x).1.raws (p+vH x) l).2)
def yx(l:List IN)(n:Nat):Nat:=((l.take n).map vH).sum
def inB(l:List IN)(n:Int):Bool:=decide (0<=n/\n<l.length)
def vN(l:List IN)(x:IN)(r:RW):RW:=if yX x.op=7/\inB l x.n=true then{r with a:=(yx l x.n.toNat:Nat)}else r
def LW.goes(s:LW)(l:List IN):List IN->LW
 |[]=>s
 |x::k=>(if yX x.op=7 then s.need (inB l x.n) 2 else s).goes l k
def vp(l:List IN)(rs:List RW):List RW:=(l.zip rs).map fun p=>vN l p.1 p.2
def LW.code(s:LW)(l:List IN):LW×List UInt8:=
 let c:=s.raws 0 l
 let e:=xt (vp l c.2)
 ((c.1.goes l l).need (decide (e.1=0)) e.1,e.2)
def LW.slot(s:LW)(t:List UInt8):LW×KS:=
 if t=[84]then(s,⟨0,0⟩)else if t=[73]then(s,⟨1,0⟩)else if t=[74]then(s,⟨4,0⟩)else if t=[78]then(s,⟨5,0⟩)
 else if vr t then((s.cls (u' t) false).1,⟨7,((s.cls (u' t) false).2:Nat)⟩)
 else(((s.need (x6 t) 8).cls t true).1,⟨7,(((s.need (x6 t) 8).cls t true).2:Nat)⟩)
def LW.slots(s:LW):List (List UInt8)->LW×List KS
 |[]=>(s,[])
 |t::l=>(((s.slot t).1.slots l).1,(s.slot t).2::((s.slot t).1.slots l).2)
def xJ(st:Bool):Int:=if st then 8 else 0
def LW.place(s:LW)(l:List IN)(n most:Int):LW×Int:=if n<0\/most<n then(s.need false 2,0)else(s,(yx l n.toNat:Nat))
def LW.trap(s:LW)(l:List IN)(t:UT):LW×KT:=
 let a:=s.place l t.fr (l.length-1)
 let b:=a.1.place l t.tt l.length
 let c:=b.1.place l t.pl (l.length-1)
 if t.cl=[]then(c.1,⟨a.2,b.2,c.2,0⟩)else((c.1.cls t.cl false).1,⟨a.2,b.2,c.2,((c.1.cls t.cl false).2:Nat)⟩)
def LW.traps(s:LW)(l:List IN):List UT->LW×List KT
 |[]=>(s,[])
 |t::k=>(((s.trap l t).1.traps l k).1,(s.trap l t).2::((s.trap l t).1.traps l k).2)
def LW.map(s:LW)(l:List IN)(m:UP):LW×KP:=
 let a:=s.place l m.pl (l.length-1)
 let b:=a.1.slots m.loc
 let c:=b.1.slots m.stk
 (c.1,⟨a.2,none,0,0,b.2,none,0,0,c.2⟩)
def LW.maps(s:LW)(l:List IN):List UP->LW×List KP
 |[]=>(s,[])
 |t::k=>(((s.map l t).1.maps l k).1,(s.map l t).2::((s.map l t).1.maps l k).2)
def LW.method(s:LW)(m:UM):LW×KM:=
 let n:=(s.need (yk m.nm&&xY m.ds) 8).text m.nm
 let d:=n.1.text m.ds
 let c:=(d.1.text wJ).1
 let c2:=if m.maps=[]then c else(c.text wH).1
 let k:=c2.code m.code
 let t:=k.1.traps m.code m.traps
 let p:=t.1.maps m.code m.maps
 (p.1,⟨xJ m.st,(n.2:Nat),(d.2:Nat),m.sk,m.lo,none,0,0,k.2,none,0,0,t.2,none,0,0,p.2⟩)
def LW.methods(s:LW):List UM->LW×List KM
 |[]=>(s,[])
 |t::k=>(((s.method t).1.methods k).1,(s.method t).2::((s.method t).1.methods k).2)
def LW.field(s:LW)(f:UF):LW×KD:=
 let n:=(s.need (yk f.nm&&typeB f.ds) 8).text f.nm
 let d:=n.1.text f.ds
 (d.1,⟨xJ f.st,(n.2:Nat),(d.2:Nat)⟩)
def LW.fields(s:LW):List UF->LW×List KD
 |[]=>(s,[])
 |t::k=>(((s.field t).1.fields k).1,(s.field t).2::((s.field t).1.fields k).2)
def LW.consts1(s:LW):List IN->LW
 |[]=>s
 |x::l=>(if x.op=18 then(s.con x).1 else s).consts1 l
def LW.consts(s:LW):List UM->LW
 |[]=>s
 |m::l=>(s.consts1 m.code).consts l
def xi(u:UU):LW×KF:=
 let s:=(⟨[kz],0⟩:LW).consts u.methods
 let t:=s.cls u.nm false
 let p:=if u.su=[]then(t.1,0)else t.1.cls u.su false
 let f:=p.1.fields u.fields
 let m:=f.1.methods u.methods
 (m.1,⟨none,0,0,m.1.l,(t.2:Nat),(p.2:Nat),none,0,0,f.2,none,0,0,m.2⟩)
def un(u:UU):Int:=if(xi u).1.e=0 then(if xn (xi u).2 then 0 else 8)else(xi u).1.e
theorem D2f(l:List KV)(c:KV):(xR l c).length<=l.length+2:=by
 unfold xR;split<;>simp
theorem pu(l:List KV)(c:KV):l<+:xR l c:=by
 unfold xR;rw[List.append_assoc];exact List.prefix_append _ _
theorem sY(s:LW)(c:KV):(s.put c).1.l.length<=s.l.length+2:=by
 unfold LW.put;split
 ·simp
 exact D2f _ _
theorem qh(s:LW)(c:KV):s.l<+:(s.put c).1.l:=by
 unfold LW.put;split
 ·exact List.prefix_refl _
 exact pu _ _
theorem fH{l:List KV}{c:KV}{i:Nat}(h:vY l c=some i):i<l.length:=(List.findIdx?_eq_some_iff_getElem.1 h).1
theorem uY(s:LW)(c:KV):(s.put c).2<(s.put c).1.l.length:=by
 unfold LW.put;split
 ·next h=>exact fH h
 show s.l.length<(xR s.l c).length;unfold xR;simp
theorem sg(s:LW)(c:KV):(s.put c).2<=s.l.length:=by
 unfold LW.put;split
 ·next h=>exact Nat.le_of_lt (fH h)
 exact Nat.le_refl _
theorem wq(s:LW)(t:List UInt8):(s.text t).1.l.length<=s.l.length+2:=sY _ _
theorem tE(s:LW)(t:List UInt8)(arr:Bool):(s.cls t arr).1.l.length<=s.l.length+4:=by
 unfold LW.cls;have h1:=wq (s.need (classB t||(arr&&x6 t)) 8) t;have h2:=sY ((s.need (classB t||(arr&&x6 t)) 8).text t).1 ⟨7,(((s.need (classB t||(arr&&x6 t)) 8).text t).2:Nat),0,0,[]⟩;have h3:(s.need (classB t||(arr&&x6 t)) 8).l=s.l:=rfl;rw[h3]at h1;omega
theorem jc(s:LW)(x:IN)(tag:Int)(p:List UInt8->Bool):(s.member x tag p).1.l.length<=s.l.length+12:=by
 unfold LW.member;dsimp only;have h0:(s.need (yk x.nm&&p x.ds) 8).l=s.l:=rfl;have h1:=tE (s.need (yk x.nm&&p x.ds) 8) x.cl false;rw[h0]at h1;generalize(s.need (yk x.nm&&p x.ds) 8).cls x.cl false=c at*;have h2:=wq c.1 x.nm;generalize c.1.text x.nm=n at*;have h3:=wq n.1 x.ds;generalize n.1.text x.ds=d at*;have h4:=sY d.1 ⟨12,(n.2:Nat),(d.2:Nat),0,[]⟩;generalize d.1.put ⟨12,(n.2:Nat),(d.2:Nat),0,[]⟩=b at*;have h5:=sY b.1 ⟨tag,(c.2:Nat),(b.2:Nat),0,[]⟩;show(b.1.put ⟨tag,(c.2:Nat),(b.2:Nat),0,[]⟩).1.l.length<=_;omega
theorem nS(s:LW)(x:IN):(s.con x).1.l.length<=s.l.length+4:=by
 unfold LW.con;split
 ·have h:=sY (s.need (vu x.n) 8) ⟨3,0,0,x.n,[]⟩;have h0:(s.need (vu x.n) 8).l=s.l:=rfl;rw[h0]at h;omega
 split
 ·have h1:=wq s x.tx;have h2:=sY (s.text x.tx).1 ⟨8,((s.text x.tx).2:Nat),0,0,[]⟩;omega
 split
 ·have h:=sY s ⟨5,0,0,x.n,[]⟩;omega
 show s.l.length<=_;omega
theorem gA(s:LW)(x:IN):(s.wide x).1.l.length<=s.l.length+12:=by
 unfold LW.wide;split
 ·exact jc (s.need (xx x) 8) x 9 typeB
 split
 ·exact jc (s.need (xx x) 8) x 10 xY
 have h:=tE (s.need (tQ x) 8) x.cl (decide (x.op≠187));have h0:(s.need (tQ x) 8).l=s.l:=rfl;rw[h0]at h;omega
theorem E2r(s:LW)(p:Nat)(x:IN):(s.raw p x).1.l.length<=s.l.length+12:=by
 unfold LW.raw;split
 ·have h:=nS (s.need (decide (x.cl=[]/\x.nm=[]/\x.m=0)) 8) x;have h0:(s.need (decide (x.cl=[]/\x.nm=[]/\x.m=0)) 8).l=s.l:=rfl;rw[h0]at h;show((s.need (decide (x.cl=[]/\x.nm=[]/\x.m=0)) 8).con x).1.l.length<=_;omega
 split
 ·exact gA s x
 split
 ·show s.l.length<=_;omega
 show s.l.length<=_;omega
theorem D9z(s:LW)(t:List UInt8):(s.slot t).1.l.length<=s.l.length+4:=by
 unfold LW.slot;split
 ·simp
 split
 ·simp
 split
 ·simp
 split
 ·simp
 split
 ·exact tE _ _ _
 exact tE (s.need (x6 t) 8) t true
end
section
open Go.ChangeShapes Go.WideShapes Go.ChangeAt Go.RowKit Go.Maps
abbrev wi:=92
abbrev x7:=61
abbrev ki:=90
def nz(c:KV):Lit:= .string (keyBytes [.int .i64 c.tag,.int .i64 c.a,.int .i64 c.b,.int .i64 c.n,.string c.s])
structure KOk(c:KV):Prop where
 t:xZ c.tag
 a:xZ c.a
 b:xZ c.b
 n:xZ c.n
 s:c.s.length<=1099511627776
theorem E4i:x7<prog.types.size:=by
 have h:Nat.ble (x7+1) prog.types.size=true:=by kernel_rfl
 generalize prog.types.size=n at*;exact Nat.lt_of_succ_le (Nat.le_of_ble_eq_true h)
theorem E2g:prog.keyTypeAt 2 x7=true:=by kernel_rfl
theorem D9v:laidOutB prog=true:=by kernel_rfl
theorem mH:Keyed prog x7:=Keyed.of_law (deep_law_laid D9v (m:=2) (by omega) E4i E2g (by rw[underlying61]))
theorem ph{c:KV}(h:KOk c):keyOf prog x7 (.agg c.cells.toArray)=some (nz c):=by
 have hi:∀(d:Nat) (x:Int),xZ x->prog.keyLits (d+1) 3 [.int .i64 x]=some [.int .i64 x]:=fun d x hx=>by
  unfold Program.keyLits;rw[underlying3];simp only;rw[if_pos ⟨trivial,hx⟩]
 have Rv:∀(d:Nat) (x:Int),xZ x->prog.keyLits (d+1) 2 [.int .i64 x]=some [.int .i64 x]:=fun d x hx=>by
  unfold Program.keyLits;rw[underlying2];simp only;rw[if_pos ⟨trivial,hx⟩]
 have hs:∀(d:Nat) (x:List UInt8),x.length<=1099511627776->prog.keyLits (d+1) 9 [.string ⟨x.toArray⟩]=some [.string x]:=fun d x hx=>by
  unfold Program.keyLits;rw[underlying9];simp only;rw[if_pos (by show x.toArray.size<=maxLen;rw[List.size_toArray];unfold maxLen;omega)]
 have h5:prog.cellsOf x7=5:=by kernel_rfl
 have h1:prog.cellsOf 3=1:=by kernel_rfl
 have h2:prog.cellsOf 9=1:=by kernel_rfl
 have h3:prog.cellsOf 2=1:=by kernel_rfl
 have hl:∀d,prog.keyLits (d+1+1) x7 c.cells=some [.int .i64 c.tag,.int .i64 c.a,.int .i64 c.b,.int .i64 c.n,.string c.s]:=fun d=>by
  unfold Program.keyLits;rw[underlying61];simp only;rw[if_pos ⟨h5.symm,by kernel_rfl⟩];simp[KV.cells,h1,h2,h3,hi d _ h.t,hi d _ h.a,hi d _ h.b,Rv d _ h.n,hs d _ h.s]
 have hf:Value.formed prog x7 (.agg c.cells.toArray)=true:=by
  unfold Value.formed;rw[underlying61];simp only;rw[h5];rfl
 obtain⟨d,hd⟩:∃d,prog.types.size=d+1:=Nat.exists_eq_succ_of_ne_zero (fun e=>by
  have:Nat.beq prog.types.size 0=false:=by kernel_rfl
  rw[e]at this
  cases this)
 unfold keyOf;rw[underlying61];simp only;rw[hf,show prog.keyType x7=true by kernel_rfl,hd]
 show(if _ then(prog.keyLits (d+1+1) x7 c.cells).map _ else none)=_
 rw[hl d];rfl
def sd:Option Obj->Prop
 |some (.cells _ t _)=>t≠x7/\t≠wi
 |some (.map _ _)=>False
 |_=>True
structure yR(B:Nat)(w w':World):Prop where
 os:w'.os=w.os
 tape:w'.tape=w.tape
 output:w'.output=w.output
 size:w.heap.size<=w'.heap.size
 block:∀k,k<w.heap.size->(k<B\/sd w.heap[k]?)->w'.heap[k]? =w.heap[k]?
theorem yR.refl(B:Nat)(w:World):yR B w w:=⟨rfl,rfl,rfl,Nat.le_refl _,fun _ _ _=>rfl⟩
theorem yR.trans{B:Nat}{w w1 w2:World}(h:yR B w w1)(k:yR B w1 w2):yR B w w2:=
 ⟨k.os.trans h.os,k.tape.trans h.tape,k.output.trans h.output,Nat.le_trans h.size k.size,fun i hi hg=>by
  have h1:=h.block i hi hg;rw[k.block i (Nat.lt_of_lt_of_le hi h.size) (by rw[h1];exact hg),h1]⟩
theorem yR.of{B:Nat}{w w1:World}(h:Below w.heap.size w w1):yR B w w1:=⟨h.os,h.tape,h.output,h.size,fun k hk _=>h.block k hk⟩
theorem yR.grown{B:Nat}{w w1:World}{row:Option Nat}(h:w.grownBy w1 row)(hr:∀k,row=some k->k<w.heap.size->B<=k/\¬sd w.heap[k]?):yR B w w1:=
 ⟨h.os,h.tape,h.output,h.size,fun k hk hg=>h.block k hk (fun e=>by
  obtain⟨h1,h2⟩:=hr k e.symm hk
  rcases hg with hg|hg
  ·omega
  exact h2 hg)⟩
theorem yR.set{B:Nat}{w:World}{g:Nat}(h:B<=g/\¬sd w.heap[g]?)(o:Nat)(v:Value):yR B w (w.setCell ⟨g,o,none⟩ v):=
 ⟨rfl,rfl,rfl,by unfold World.setCell;simp,fun k hk hq=>by
  unfold World.setCell
  have ZF:¬g=k:=by
   rintro rfl
   rcases hq with h1|h1
   ·omega
   exact h.2 h1
  simp[Array.getElem?_modify,ZF]⟩
theorem yR.below{B:Nat}{w0 w w':World}(h:yR B w w')(hb:Below B w0 w)(hB:B<=w0.heap.size):Below B w0 w':=
 ⟨h.os.trans hb.os,h.tape.trans hb.tape,h.output.trans hb.output,Nat.le_trans hb.size h.size,fun k hk=>by
  rw[h.block k (Nat.lt_of_lt_of_le (Nat.lt_of_lt_of_le hk hB) hb.size) (.inl hk)];exact hb.block k hk⟩
theorem yR.row{B:Nat}{w w':World}(h:yR B w w'){g:Nat}{cs:Array Value}{t:TypeId}{fr:Nat×Nat}(hg:w.heap[g]? =some (.cells cs t fr))(h1:t≠x7)(h2:t≠wi):w'.heap[g]? =some (.cells cs t fr):=by
 rw[h.block g (Array.getElem?_eq_some_iff.1 hg).1 (.inr (by rw[hg];exact⟨h1,h2⟩))];exact hg
theorem yR.own{B:Nat}{w w':World}{B':Nat}{e:TypeId}{size:Nat}{v:Value}{n:Nat}{xs:List Value}(h:w.ownsRow B' e size v n xs)(k:yR B w w')(h1:e≠x7)(h2:e≠wi):w'.ownsRow B' e size v n xs:=by
 refine⟨h.1,?_⟩
 rcases h.2 with⟨h1,h2⟩|⟨b,cap,cur,hv,hb,hc,r⟩
 ·exact .inl ⟨h1,h2⟩
 exact .inr ⟨b,cap,cur,hv,hb,k.row hc h1 h2,r⟩
theorem yR.vw{B:Nat}{w w':World}(h:yR B w w')(hv:VW w)(h0:0<B):VW w':=by
 obtain⟨m,hm⟩:=hv;refine⟨m,?_⟩
 have ZX:0<w.heap.size:=by
  rcases Nat.eq_zero_or_pos w.heap.size with h1|h1
  ·exfalso;have:w.heap[0]? =none:=Array.getElem?_eq_none (by omega);simp[World.cell?,this]at hm
  exact h1
 rw[<-hm];unfold World.cell?;rw[h.block 0 ZX (.inl h0)]
def wv(w:World)(b:Nat)(L:List KV):Prop:=
 ∃D,w.ownsMap prog x7 (plainElem (H:=Unit) prog 3) b L.length D/\∀c,KOk c->c.tag≠0->∀z,D.atKey (nz c) z=(match vY L c with|some i=> .lit (.int .i64 (i:Nat))|none=>z)
theorem wv.lt{w:World}{b:Nat}{L:List KV}(h:wv w b L):b<w.heap.size:=by obtain⟨D,h,_⟩:=h;exact h.lt
theorem wv.kept{w w':World}{b:Nat}{L:List KV}{row:Option Nat}(h:wv w b L)(hg:w.grownBy w' row)(ZF:some b≠row):wv w' b L:=by
 obtain⟨D,h,hd⟩:=h;exact⟨D,h.kept hg ZF,hd⟩
theorem wv.setCell{w:World}{b:Nat}{L:List KV}(h:wv w b L){a:Addr}(ha:b≠a.block)(u:Value):wv (w.setCell a u) b L:=by
 obtain⟨D,h,hd⟩:=h;exact⟨D,h.setCell ha u,hd⟩
theorem wv.below{w w':World}{b:Nat}{L:List KV}(h:wv w b L)(hb:Below w.heap.size w w'):wv w' b L:=h.kept (row:=none) ⟨hb.os,hb.tape,hb.output,hb.size,fun k hk _=>hb.block k hk⟩ (by simp)
structure LoX(w:World)(B g:Nat)(s:LW)(a:Option Addr)(cap b:Nat):Prop where
 k:tL w g (.slice a s.l.length cap) (.map (some b)) (.int .i64 s.e) wi
 o:w.ownsRow B x7 5 (.slice a s.l.length cap) s.l.length (s.l.flatMap KV.cells)
 m:wv w b s.l
 bB:B<=b
 gB:B<=g
 B0:0<B
 vw:VW w
def LoS(w:World)(B g:Nat)(s:LW):Prop:=∃a cap b,LoX w B g s a cap b
theorem LoX.bg{w:World}{B g:Nat}{s:LW}{a:Option Addr}{cap b:Nat}(h:LoX w B g s a cap b):b≠g:=by
 rintro rfl;obtain⟨D,⟨es,cl,hm,_⟩,_⟩:=h.m;have:=h.k;unfold tL at this;rw[hm]at this
 cases this
theorem LoX.nk{w:World}{B g:Nat}{s:LW}{a:Option Addr}{cap b:Nat}(h:LoX w B g s a cap b):B<=g/\¬sd w.heap[g]? :=by
 refine⟨h.gB,?_⟩;have:=h.k;unfold tL at this;rw[this];exact fun hh=>hh.2 rfl
theorem LoX.nm{w:World}{B g:Nat}{s:LW}{a:Option Addr}{cap b:Nat}(h:LoX w B g s a cap b):B<=b/\¬sd w.heap[b]? :=by
 refine⟨h.bB,?_⟩;obtain⟨D,⟨es,cl,hm,_⟩,_⟩:=h.m;rw[hm];exact fun hh=>hh
theorem LoX.below{w w':World}{B g:Nat}{s:LW}{a:Option Addr}{cap b:Nat}(h:LoX w B g s a cap b)(hb:Below w.heap.size w w'):LoX w' B g s a cap b:=
 ⟨h.k.below hb,wE h.o hb,h.m.below hb,h.bB,h.gB,h.B0,h.vw.below hb⟩
theorem LoS.below{w w':World}{B g:Nat}{s:LW}(h:LoS w B g s)(hb:Below w.heap.size w w'):LoS w' B g s:=by
 obtain⟨a,cap,b,h⟩:=h;exact⟨a,cap,b,h.below hb⟩
theorem LoX.lt{w:World}{B g:Nat}{s:LW}{a:Option Addr}{cap b:Nat}(h:LoX w B g s a cap b):g<w.heap.size:=h.k.box.lt
theorem LoS.lt{w:World}{B g:Nat}{s:LW}(h:LoS w B g s):g<w.heap.size:=by
 obtain⟨a,cap,b,h⟩:=h;exact h.lt
theorem LoX.set2{w:World}{B g:Nat}{s:LW}{a:Option Addr}{cap b:Nat}(h:LoX w B g s a cap b)(e2:Int):LoX (w.setCell ⟨g,2,none⟩ (.int .i64 e2)) B g ⟨s.l,e2⟩ a cap b:=
 ⟨wZ h.k 2 _,xA h.o (uz h.k 2 _) (by decide),h.m.setCell h.bg _,h.bB,h.gB,h.B0,(yR.set h.nk 2 _).vw h.vw h.B0⟩
def uf(v:Value)(B g:Nat)(s:LW)(w:World)(e:Ending)(w':World):Prop:=e= .returned v/\LoS w' B g s/\yR B w w'
end
end Go.Proofs.YtclpkipaehpkdaaGreatDoor
