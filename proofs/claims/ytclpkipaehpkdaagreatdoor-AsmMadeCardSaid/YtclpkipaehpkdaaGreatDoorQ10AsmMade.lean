/- asm -/
import Derived.Test.YtclpkipaehpkdaaGreatDoorQ08AsmMade
set_option linter.unusedVariables false
set_option linter.unusedSimpArgs false
set_option maxRecDepth 100000
set_option maxHeartbeats 64000000
namespace Go.Proofs.YtclpkipaehpkdaaGreatDoor
section
open Go.ChangeShapes Go.WideShapes Go.ChangeAt Go.RowKit Go.Maps
def ixF(p:Int):List RW->Nat->Option Nat->Option Nat
 |[],_,acc=>acc
 |r::L,i,acc=>ixF p L (i+1) (if r.pos=p then some i else acc)
def C2w(L:List RW)(p:Int):Option Nat:=ixF p L 0 none
def plF:List RW->Nat->DataW Unit->DataW Unit
 |[],_,D=>D
 |r::L,i,D=>plF L (i+1) (D.put (.int .i64 r.pos) (.lit (.int .i64 (i:Nat))))
theorem C3g:∀(L:List RW) (r:RW) (i:Nat) (D:DataW Unit),plF (L++[r]) i D=(plF L i D).put (.int .i64 r.pos) (.lit (.int .i64 ((i+L.length:Nat):Int)))
 |[],r,i,D=>by simp[plF]
 |q::L,r,i,D=>by
  rw[List.cons_append,plF,plF,C3g L r (i+1)];rw[show i+1+L.length=i+(q::L).length by simp;omega]
theorem D4q(p:Int)(z:DataW Unit):∀(L:List RW) (i:Nat) (D:DataW Unit) (acc:Option Nat),Maps.IsMap D->D.atKey (.int .i64 p) z=(match acc with|some k=> .lit (.int .i64 (k:Nat))|none=>z)->
  (plF L i D).atKey (.int .i64 p) z=(match ixF p L i acc with|some k=> .lit (.int .i64 (k:Nat))|none=>z)
 |[],i,D,acc,_,h=>h
 |r::L,i,D,acc,hD,h=>by
  rw[plF,ixF];refine D4q p z L (i+1) _ _ (hD.put _ _) ?_;by_cases h2:r.pos=p
  ·rw[if_pos h2,h2,Maps.atKey_put_same hD (by trivial)]
  rw[if_neg h2,Maps.atKey_put_other (by intro h;cases h;exact h2 rfl)]
  exact h
def B2i(L:List RW):DataW Unit:=plF L 0 (.map [])
theorem A7u(L:List RW)(p:Int)(z:DataW Unit):(B2i L).atKey (.int .i64 p) z=(match C2w L p with|some k=> .lit (.int .i64 (k:Nat))|none=>z):=
 D4q p z L 0 _ none Maps.isMap_empty rfl
def A8n(w:World)(b:Nat)(L:List RW):Prop:=w.ownsMap Tryz.prog 3 (plainElem (H:=Unit) Tryz.prog 3) b L.length (B2i L)
theorem D0w(w:World):(zeroValue 3).run Tryz.prog w= .ok (.int .i64 0) w:=by kernel_rfl
theorem D6e{w:World}{b:Nat}{L:List RW}(h:A8n w b L)(p:Int)(hp:A4b p):
  (Instr.lookup 115 (.map (some b)) (.int .i64 p) false).run Tryz.prog w= .ok (.int .i64 (((C2w L p).getD 0:Nat):Int)) w:=by
 obtain⟨c,hrun,hat,_⟩:=h.lookup_int (int_keyed Tryz.underlying3) Tryz.underlying115 Tryz.underlying3 (D0w w) (Maps.keyOf_int_mk Tryz.underlying3 hp);rw[A7u]at hat;rw[hrun]
 cases hx:C2w L p with
 |none=>rw[hx]at hat;simp at hat;simp[<-hat]
 |some k=>rw[hx]at hat;simp at hat;simp[<-hat]
theorem C6f{w:World}{b:Nat}{L:List RW}(h:A8n w b L)(p:Int)(hp:A4b p):
  (Instr.lookup 115 (.map (some b)) (.int .i64 p) true).run Tryz.prog w= .ok (.tuple #[.int .i64 (((C2w L p).getD 0:Nat):Int),.bool (C2w L p).isSome]) w:=by
 obtain⟨v,ps,hrun,hv⟩:=h.look_ok (int_keyed Tryz.underlying3) Tryz.underlying115 (D0w w) (plainElem_int Tryz.underlying3 (a:=0) (by decide)) (Maps.keyOf_int_mk Tryz.underlying3 hp)
 obtain⟨c,rfl,hc,_⟩:=plainElem_int_inv Tryz.underlying3 hv;simp only[Prod.mk.injEq]at hc;have hat:=hc.1;have hn:=A7u L p .nil;rw[A7u]at hat;rw[hrun]
 cases hx:C2w L p with
 |none=>
  rw[hx]at hat hn;simp only at hat hn;rw[Maps.has_false_of_atKey (fun z=>by rw[A7u,hx])];simp at hat;simp[<-hat]
 |some k=>
 rw[hx]at hat hn;simp only at hat hn;rw[Maps.has_true_of_atKey (fun z=>by rw[A7u,hx])];simp at hat;simp[<-hat]
def E1q(L:List RW)(w:World)(e:Ending)(w':World):Prop:=∃b,e= .returned (.map (some b))/\w.heap.size<=b/\A8n w' b L/\Below w.heap.size w w'
theorem C0n(w:World)(a:Option Addr)(n cap:Nat)(L:List RW)(hs:Rs w a n L)(hn:n<=65536)(hw:∀r∈L,A4b r.pos):Calls Tryz.prog 54 #[.slice a n cap] w (E1q L w):=by
 have HS:=hzz hs;have HLn:=hzz hs.1;have HW:=hzz hw;have hmm:= @run_makeMap Tryz.prog;clear hs hw;go_enter Tryz.func54,Tryz.ntmps54
 go_wp2_with fail
 clear hmm
 go_loopg [9] n (fun gn i wr=>∃j:Nat,j<=n/\gn=n-j/\i= .int .i64 j/\Hid (wr.ownsMap Tryz.prog 3 (plainElem (H:=Unit) Tryz.prog 3) w.heap.size j (B2i (L.take j)))/\Hid (Below w.heap.size w wr))
 case atStart=>exact⟨0,by omega,by omega,by go_num,hzz (World.ownsMap_made _ _ _ _),hzz (brz.alloc nlz _)⟩
 obtain⟨j,hj,rfl,rfl,HM,HB⟩:=hrel;by_cases hlt:j<n
 ·obtain⟨b,off,r,rfl,_,hr,q⟩:=(HS.out.below HB.out).at j hlt;obtain⟨q0,q1,q2,q3⟩:=q;have hrp:=HW.out r (List.mem_of_getElem? hr)
  have HN:=hzz (show B2i (L.take (j+1))=(B2i (L.take j)).put (.int .i64 r.pos) (.lit (.int .i64 (j:Nat))) by
   have hjl:=(gsz hr).1;have he:=(gsz hr).2;unfold B2i;rw[List.take_succ_eq_append_getElem hjl,C3g,he,List.length_take,Nat.min_eq_left (by omega),Nat.zero_add])
  have j1:(j:Int)<n:=by omega
  have hjw:(Lit.int .i64 (j:Int)).wf=true:=A1j (by omega);clear hr;obtain⟨p,k,x,y⟩:=r;simp only at q0 q1 q2 q3 hrp HN
  obtain⟨w',hrun,hown,hturn⟩:=(HM.out.alloc (.cells #[.int .i64 p,.int .u8 (k:Nat),.int .i64 x,.int .i64 y] 118)).store (int_keyed Tryz.underlying3) Tryz.underlying115 (by unfold maxLen;omega) (val:= .int .i64 (j:Nat)) (Maps.keyOf_int_mk Tryz.underlying3 hrp) (plainElem_int Tryz.underlying3 hjw)
  have HM2:=hzz hown
  have HB2:=hzz ((HB.out.alloc HB.out.size (.cells #[.int .i64 p,.int .u8 (k:Nat),.int .i64 x,.int .i64 y] 118)).grown hturn.grown (Nat.le_trans HB.out.size (by simp)) (fun m hm=>by cases hm;exact Nat.le_refl _))
  clear hown hturn hrp hjw
  go_wp2_with fail
  go_roundg (n-(j+1))
  case measure=>omega
  exact⟨j+1,by omega,rfl,by go_num,hzz (by rw[HN.out];exact HM2.out),HB2⟩
 obtain rfl:j=n:=by omega
 have HE:=hzz HM.out;rw[List.take_of_length_le (by rw[HLn.out];exact Nat.le_refl _)]at HE
 go_wp2_with fail
 go_ret;exact⟨_,rfl,Nat.le_refl _,by unfold A8n;rw[HLn.out];exact HE.out,HB.out⟩
end
section
open Go.ChangeShapes Go.WideShapes Go.ChangeAt Go.RowKit
def plV(L:List RW)(cn:Nat)(n:Int)(en:Bool):Nat:=if en=true/\n=cn then L.length else(C2w L n).getD 0
def plC(L:List RW)(cn:Nat)(n:Int)(en:Bool):Bool:=(en&&decide (n=cn))||(C2w L n).isSome
structure D6n(w:World)(gm gl ga gk g:Nat)(m:KM)(la:Option Addr)(ln lc:Nat)(L:List RW)(b:Nat):Prop where
 m:w.heap[gm]? =some (.cells m.cells.toArray 65 (0,0))
 l:w.heap[gl]? =some (.cells #[.slice la ln lc] 112 (0,0))
 a:w.heap[ga]? =some (.cells #[.map (some b)] 115 (0,0))
 k:w.heap[gk]? =some (.cells #[.pointer (some ⟨g,0,none⟩)] 70 (0,0))
 p:A8n w b L
 len:ln=L.length
 nm:gm≠g
 nl:gl≠g
 na:ga≠g
 nk:gk≠g
 nb:b≠g
theorem A8n.keep{w w':World}{b:Nat}{L:List RW}{p:Nat->Prop}(h:A8n w b L)(hk:A0j p w w')(hp:¬p b):A8n w' b L:=by
 have hg:World.grownBy w' w' none:=⟨rfl,rfl,rfl,Nat.le_refl _,fun _ _ _=>rfl⟩;obtain⟨es,clock,hb,F,hn,hD⟩:=h
 exact⟨es,clock,by rw[hk.block b (Array.getElem?_eq_some_iff.1 hb).1 hp];exact hb,F,hn,hD⟩
theorem A9q(w:World)(g:Nat)(a:Option Addr)(n cap:Nat)(K:List KV)(er:Int)(gm gl ga gk:Nat)(m:KM)(la:Option Addr)(ln lc:Nat)(L:List RW)(b:Nat)(p:Int)(en:Bool)(hp:A4b p)(hcn:m.cn<=9223372036854775807)(hln:ln<=65536)
  (h:LfS w g a n cap K er) (hs:D6n w gm gl ga gk g m la ln lc L b):
  Calls Tryz.prog 56 #[.int .i64 p,.bool en,.pointer (some ⟨gm,0,none⟩),.pointer (some ⟨gl,0,none⟩),.pointer (some ⟨ga,0,none⟩),.pointer (some ⟨gk,0,none⟩)] w (D6w (.int .i64 (plV L m.cn p en:Nat)) g a n cap K (A2a er (plC L m.cn p en) 2) w):=by
 have HS:=hzz hs;have HN:=hzz (fun ok=>A3v w g a n cap K er ok 2 h);have H:=hzz h;have m5:w.cell? ⟨gm,5,none⟩=some (.slice m.ca m.cn m.cc):=A0a hs.m 5 rfl
 have l0:w.cell? ⟨gl,0,none⟩=some (.slice la ln lc):=A0a hs.l 0 rfl;have a0:w.cell? ⟨ga,0,none⟩=some (.map (some b)):=A0a hs.a 0 rfl
 have k0:w.cell? ⟨gk,0,none⟩=some (.pointer (some ⟨g,0,none⟩)):=A0a hs.k 0 rfl;have hlk:=C6f hs.p p hp
 have HV:plV L m.cn p en=if en=true/\p=m.cn then L.length else(C2w L p).getD 0:=rfl
 have HC:plC L m.cn p en=((en&&decide (p=m.cn))||(C2w L p).isSome):=rfl;have HLN:=hzz hs.len;generalize plV L m.cn p en=V at*;generalize plC L m.cn p en=C at*
 generalize(C2w L p).getD 0=x at*;generalize(C2w L p).isSome=s at*;generalize m.cn=cn at*;generalize m.ca=ca at*;generalize m.cc=cc at*;clear h hs hp;have c0:(0:Int)<=cn:=by omega
 have c1:(cn:Int)<=9223372036854775807:=by omega
 cases en
 ·have hV:V=x:=by rw[HV,if_neg (by simp)]
  have hC:C=s:=by rw[HC];rfl
  subst hV hC;clear HV HC;go_enter Tryz.func56,Tryz.ntmps56
  go_wp2_with fail
  refine(HN.out C).mono ?_;rintro e W3 ⟨rfl,hl,hk⟩
  go_wp2_with fail
  go_ret;exact⟨rfl,hl,hk⟩
 by_cases he:p=cn
 ·have e1:(p==(cn:Int))=true:=by simpa using he
  have hV:V=ln:=by rw[HV,if_pos ⟨rfl,he⟩,HLN.out]
  have hC:C=true:=by rw[HC,decide_eq_true he];rfl
  have hE:A2a er true 2=er:=by unfold A2a;rw[if_neg (fun h=>absurd h.1 (by decide))]
  subst hV hC;rw[hE];clear HV HC he hE;go_enter Tryz.func56,Tryz.ntmps56
  go_wp2_with fail
  go_ret;exact⟨rfl,H.out,A0j.refl _ _⟩
 have e1:(p==(cn:Int))=false:=by simpa using he
 have hV:V=x:=by rw[HV,if_neg (fun h=>he h.2)]
 have hC:C=s:=by rw[HC,decide_eq_false he];rfl
 subst hV hC;clear HV HC he;go_enter Tryz.func56,Tryz.ntmps56
 go_wp2_with fail
 refine(HN.out C).mono ?_;rintro e W3 ⟨rfl,hl,hk⟩
 go_wp2_with fail
 go_ret;exact⟨rfl,hl,hk⟩
end
section
open Go.ChangeShapes Go.WideShapes Go.ChangeAt Go.RowKit
open Go.Maps (Keyed int_keyed)
theorem A1f{er k:Int}{ok:Bool}(hk:k≠0):A2a er ok k=0↔er=0/\ok=true:=by
 unfold A2a
 cases ok
 ·by_cases h:er=0
  ·rw[if_pos ⟨rfl,h⟩];simp[hk]
  rw[if_neg (fun h'=>h h'.2)];simp[h]
 rw[if_neg (fun h'=>absurd h'.1 (by decide))];simp
def LfR(v:Value)(g:Nat)(a:Option Addr)(n cap:Nat)(L:List KV)(er:Int)(C:Bool)(w:World)(e:Ending)(w':World):Prop:=
 e= .returned v/\(∃er',(er'=0↔er=0/\C=true)/\LfS w' g a n cap L er')/\A0j (fun x=>x=g) w w'
theorem A0j.ofB{B:Nat}{w w':World}(h:Below B w w')(hs:w.heap.size<=w'.heap.size):A0j (fun k=>B<=k) w w':=⟨h.os,h.tape,h.output,hs,fun k hk hq=>h.block k (by omega)⟩
theorem LfS.newer{w0 w w':World}{g:Nat}{a:Option Addr}{n cap:Nat}{L:List KV}{er0 er:Int}(h0:LfS w0 g a n cap L er0)(h:LfS w g a n cap L er){B:Nat}(hB:w0.heap.size<=B)(hk:A0j (fun k=>B<=k) w w'):LfS w' g a n cap L er:=by
 have hg:=h0.lt;refine h.keep hk (fun hh=>by omega) (fun hh=>by have:=h.g0;omega) (fun hn b off e hh=> ?_);obtain⟨b',off',e2,hlt,_⟩:=h0.ks.2 hn;rw[e]at e2
 simp only[Option.some.injEq,Addr.mk.injEq]at e2;omega
def A3x(K:List KV)(s:KS):List UInt8:=
 if s.tag=0 then [84]else if s.tag=1 then [73]else if s.tag=4 then [74]else if s.tag=5 then [78]
 else if A2g (A0s K s.a).1 then(A0s K s.a).1 else D5e (A0s K s.a).1
def B0g(K:List KV)(s:KS):Bool:=decide (s.tag≠7)||aclsB K s.a true
def C5u(s:KS):Prop:=s.tag=0\/s.tag=1\/s.tag=4\/s.tag=5\/s.tag=7
def C3b(t:Int):List UInt8:=if t=0 then [84]else if t=1 then [73]else if t=4 then [74]else if t=5 then [78]else []
theorem A0j.new{p:Nat->Prop}{w w1 w2:World}(h:A0j p w w1)(k:A0j (fun x=>w.heap.size<=x) w1 w2):A0j p w w2:=
 ⟨k.os.trans h.os,k.tape.trans h.tape,k.output.trans h.output,Nat.le_trans h.size k.size,fun i hi hg=>by rw[k.block i (Nat.lt_of_lt_of_le hi h.size) (by omega),h.block i hi hg]⟩
theorem A5d{p:Nat->Prop}{w w':World}{B:Nat}{e:TypeId}{size:Nat}{v:Value}{n:Nat}{xs:List Value}(h:w.ownsRow B e size v n xs)(k:A0j p w w')(hp:∀x,p x->x<B\/w.heap.size<=x):w'.ownsRow B e size v n xs:=by
 refine⟨h.1,?_⟩
 rcases h.2 with⟨h1,h2⟩|⟨b,cap,cur,hv,hb,hc,r⟩
 ·exact .inl ⟨h1,h2⟩
 refine .inr ⟨b,cap,cur,hv,hb,?_,r⟩;have hlt:=(Array.getElem?_eq_some_iff.1 hc).1;rw[k.block b hlt (fun hpb=>by have:=hp b hpb;omega)];exact hc
theorem A7a(K:List KV)(s:KS)(h:s.tag=0\/s.tag=1\/s.tag=4\/s.tag=5):A3x K s=C3b s.tag/\B0g K s=true:=by
 unfold A3x B0g C3b
 rcases h with h|h|h|h<;>simp[h]
theorem C3a(K:List KV)(sa:Int):A3x K ⟨7,sa⟩=(if A2g (A0s K sa).1 then(A0s K sa).1 else D5e (A0s K sa).1)/\B0g K ⟨7,sa⟩=aclsB K sa true:=by
 unfold A3x B0g;simp
theorem D3j{v:Value}{z:DataW Unit×List MemPlace}(h:plainElem Tryz.prog 9 v=some z):∃s:ByteArray,v= .string s/\z=(.lit (.string s.data.toList),[]):=by
 unfold plainElem at h;rw[Tryz.underlying9]at h
 cases v<;>simp at h
 exact⟨_,rfl,h.2.symm⟩
theorem D5s(w:World):(zeroValue 9).run Tryz.prog w= .ok (.string ⟨#[]⟩) w:=by kernel_rfl
abbrev E0c:=175
theorem E2k(W:World)(b:Nat)(h:W.ownsMap Tryz.prog 3 (plainElem (H:=Unit) Tryz.prog 9) b 0 (.map [])):
  ∃w1 w2 w3 w4,(Instr.mapUpdate E0c (.map (some b)) (.int .i64 0) (.string ⟨#[84]⟩)).run Tryz.prog W= .ok () w1/\(Instr.mapUpdate E0c (.map (some b)) (.int .i64 1) (.string ⟨#[73]⟩)).run Tryz.prog w1= .ok () w2/\
   (Instr.mapUpdate E0c (.map (some b)) (.int .i64 4) (.string ⟨#[74]⟩)).run Tryz.prog w2= .ok () w3/\(Instr.mapUpdate E0c (.map (some b)) (.int .i64 5) (.string ⟨#[78]⟩)).run Tryz.prog w3= .ok () w4/\
   (∀t:Int,(t=0\/t=1\/t=4\/t=5\/t=7)->(Instr.lookup E0c (.map (some b)) (.int .i64 t) false).run Tryz.prog w4= .ok (.string ⟨(C3b t).toArray⟩) w4)/\W.grownBy w4 (some b):=by
 have K:=int_keyed (P:=Tryz.prog) Tryz.underlying3
 have ks:∀(s:ByteArray),s.size<=1->plainElem (H:=Unit) Tryz.prog 9 (.string s)=some (.lit (.string s.data.toList),[]):=fun s hs=>plainElem_string Tryz.underlying9 (by unfold maxLen;omega)
 obtain⟨w1,r1,o1,t1⟩:=h.store K Tryz.underlying175 (by decide) (val:= .string ⟨#[84]⟩) (Maps.keyOf_int_mk Tryz.underlying3 (show(Lit.int .i64 0).wf=true by decide)) (ks _ (by decide))
 obtain⟨w2,r2,o2,t2⟩:=o1.store K Tryz.underlying175 (by decide) (val:= .string ⟨#[73]⟩) (Maps.keyOf_int_mk Tryz.underlying3 (show(Lit.int .i64 1).wf=true by decide)) (ks _ (by decide))
 obtain⟨w3,r3,o3,t3⟩:=o2.store K Tryz.underlying175 (by decide) (val:= .string ⟨#[74]⟩) (Maps.keyOf_int_mk Tryz.underlying3 (show(Lit.int .i64 4).wf=true by decide)) (ks _ (by decide))
 obtain⟨w4,r4,o4,t4⟩:=o3.store K Tryz.underlying175 (by decide) (val:= .string ⟨#[78]⟩) (Maps.keyOf_int_mk Tryz.underlying3 (show(Lit.int .i64 5).wf=true by decide)) (ks _ (by decide))
 refine⟨w1,w2,w3,w4,r1,r2,r3,r4,fun t ht=> ?_,((t1.trans t2).trans (t3.trans t4)).grown⟩
 obtain⟨v,ps,hrun,hv⟩:=o4.lookup K Tryz.underlying175 (D5s w4) (ks ⟨#[]⟩ (by decide)) (Maps.keyOf_int_mk Tryz.underlying3 (show(Lit.int .i64 t).wf=true from A1j (by omega)))
 obtain⟨s,rfl,hs⟩:=D3j hv;rw[hrun];simp only[Prod.mk.injEq]at hs;have h1:=hs.1
 have e:s.data.toList=C3b t:=by
  have key:∀d:DataW Unit,d= .lit (.string s.data.toList)->d= .lit (.string (C3b t))->s.data.toList=C3b t:=fun d e1 e2=>by
   rw[e1]at e2;simpa using e2
  rcases ht with rfl|rfl|rfl|rfl|rfl
  ·exact key _ h1 rfl
  ·exact key _ h1 rfl
  ·exact key _ h1 rfl
  ·exact key _ h1 rfl
  exact key _ h1 rfl
 rw[<-e,B8e]
theorem B6e(w:World)(g:Nat)(a:Option Addr)(n cap:Nat)(K:List KV)(er:Int)(za:Option Addr)(zn zc:Nat)(l:List KS)(h:LfS w g a n cap K er)(hz:Ss 2 KS.cells w za zn l)(ho:B1t za zn g)(hzn:zn<=1000000)(ht:∀s∈l,C5u s):
  Calls Tryz.prog 57 #[.pointer (some ⟨g,0,none⟩),.slice za zn zc] w fun e w'=>∃oa oc,LfR (.slice oa zn oc) g a n cap K er (l.all (B0g K)) w e w'/\w'.ownsRow w.heap.size 9 1 (.slice oa zn oc) zn ((l.map (A3x K)).map B0d):=by
 have H:=hzz h;have HZ:=hzz hz;have HZn:=hzz hz.1;have HO:=hzz ho;have HTG:=hzz ht;have hmm:= @run_makeMap Tryz.prog;clear h hz ho ht;go_enter Tryz.func57,Tryz.ntmps57
 go_wp2_with fail
 go_loopg [5,11] zn (fun gn ov i wr=>∃(j:Nat) (er':Int) (oa:Option Addr) (oc:Nat),j<=zn/\gn=zn-j/\ov= .slice oa j oc/\i= .int .i64 j/\Hid (LfS wr g a n cap K er')/\Hid (er'=0↔er=0/\(l.take j).all (B0g K)=true)/\Hid (A0j (fun x=>x=g) w wr)/\Hid (wr.ownsRow w.heap.size 9 1 (.slice oa j oc) j (((l.take j).map (A3x K)).map B0d)))
 case atStart=>exact⟨0,er,none,0,by omega,by omega,rfl,by go_num,H,hzz (by simp),hzz (A0j.refl _ _),hzz (World.ownsRow_nil _ _ _ _)⟩
 obtain⟨j,er',oa,oc,hj,rfl,rfl,rfl,HL,HE,HK,HOW⟩:=hrel;by_cases hlt:j<zn
 ·have hz2:=HK.out.ss HZ.out (fun hn b off e=>HO.out hn b off e);obtain⟨b,off,s,rfl,hbl,hs,q⟩:=hz2.getC j hlt;have q0:=q 0 (by omega);have q1:=q 1 (by omega);rw[Nat.add_zero]at q0
  have hj1:(j:Int)<zn:=by omega
  have htg:=HTG.out s (List.mem_of_getElem? hs)
  have HTK:=hzz (show l.take (j+1)=l.take j++[s] by
   have hjl:=(gsz hs).1;rw[List.take_succ_eq_append_getElem hjl,(gsz hs).2])
  obtain⟨tag,sa⟩:=s;simp only[KS.cells,List.getElem?_cons_zero,List.getElem?_cons_succ]at q0 q1;unfold C5u at htg;simp only at htg;clear hz2 q hs hlt
  have hmade:=World.ownsMap_made (wr.alloc (.cells #[.int .i64 tag,.int .i64 sa] 174)) Tryz.prog 3 (plainElem (H:=Unit) Tryz.prog 9)
  rw[show(wr.alloc (.cells #[.int .i64 tag,.int .i64 sa] 174)).heap.size=wr.heap.size+1 by simp]at hmade;obtain⟨w1,w2,w3,w4,r1,r2,r3,r4,hl,hg4⟩:=E2k _ _ hmade
  have hb4:Below wr.heap.size wr w4:=((Below.refl wr.heap.size wr).alloc nlz _).alloc (by simp) _|>.grown hg4 (by simp;omega) (fun m hm=>by cases hm;omega)
  have hs4:w4.heap[wr.heap.size]? =some (.cells #[.int .i64 tag,.int .i64 sa] 174 (0,0)):=by
   rw[hg4.block wr.heap.size (by simp;omega) (by simp),Below.heap_alloc _ _ _ (by simp)];exact heap_alloc_last wr _
  have s0:w4.cell? ⟨wr.heap.size,0,none⟩=some (.int .i64 tag):=A0a hs4 0 rfl;have s1:w4.cell? ⟨wr.heap.size,1,none⟩=some (.int .i64 sa):=A0a hs4 1 rfl;have HLX:=hzz (HL.out.below hb4)
  have HKX:=hzz (HK.out.trans (A0j.of hb4));have HOX:=hzz (A0x HOW.out hb4);have hbl2:b<wr.heap.size:=hbl;have j0:j<1000000:=by omega
  clear hmade hg4 hb4 HL HK HOW
  rcases htg with rfl|rfl|rfl|rfl|rfl
  ·have HTX:=hzz (show(l.take (j+1)).map (A3x K)=(l.take j).map (A3x K)++[C3b 0] by rw[HTK.out,List.map_append,List.map_singleton,(A7a K ⟨0,sa⟩ (by simp)).1])
   have HEX:=hzz (show er'=0↔er=0/\(l.take (j+1)).all (B0g K)=true by rw[HTK.out,List.all_append,HE.out];simp[(A7a K ⟨0,sa⟩ (by simp)).2]);have hlk:=hl 0 (by simp);clear hl
   obtain⟨tx,htx⟩:=exz (C3b 0);rw[<-htx]at hlk HTX;clear htx
   go_wp2_with (at_builtin;refine A3b D6a rfl _ _ rfl w.heap.size _ j _ rfl HOX.out _ 1 _ _ rfl (by simp) rfl rfl (by omega) (by unfold maxLen;omega) HKX.out.size ?_;intro v9 w9 hown9 hg9 hb9;obtain⟨a9,c9,rfl,-,-⟩:=Sl.ofOwn (enc:=B0d) (xs:=((l.take j).map (A3x K))++[tx]) (by rw[List.map_append];exact hown9);have HO9:=hzz (show w9.ownsRow w.heap.size 9 1 (.slice a9 (j+1) c9) (j+1) ((((l.take j).map (A3x K))++[tx]).map B0d) by rw[List.map_append];exact hown9);have hk9:A0j (fun k=>w.heap.size<=k) w4 w9:=A0j.ofB hb9 (Nat.le_trans (by simp) hg9.size);have HK9:=hzz (HKX.out.new hk9);have HL9:=hzz (H.out.newer HLX.out nlz hk9);clear hown9 hg9 hb9 hk9)
   go_roundg (zn-(j+1))
   case measure=>omega
   exact⟨j+1,_,_,_,by omega,rfl,rfl,by go_num,HL9,HEX,HK9,hzz (by rw[HTX.out];exact HO9.out)⟩
  ·have HTX:=hzz (show(l.take (j+1)).map (A3x K)=(l.take j).map (A3x K)++[C3b 1] by rw[HTK.out,List.map_append,List.map_singleton,(A7a K ⟨1,sa⟩ (by simp)).1])
   have HEX:=hzz (show er'=0↔er=0/\(l.take (j+1)).all (B0g K)=true by rw[HTK.out,List.all_append,HE.out];simp[(A7a K ⟨1,sa⟩ (by simp)).2]);have hlk:=hl 1 (by simp);clear hl
   obtain⟨tx,htx⟩:=exz (C3b 1);rw[<-htx]at hlk HTX;clear htx
   go_wp2_with (at_builtin;refine A3b D6a rfl _ _ rfl w.heap.size _ j _ rfl HOX.out _ 1 _ _ rfl (by simp) rfl rfl (by omega) (by unfold maxLen;omega) HKX.out.size ?_;intro v9 w9 hown9 hg9 hb9;obtain⟨a9,c9,rfl,-,-⟩:=Sl.ofOwn (enc:=B0d) (xs:=((l.take j).map (A3x K))++[tx]) (by rw[List.map_append];exact hown9);have HO9:=hzz (show w9.ownsRow w.heap.size 9 1 (.slice a9 (j+1) c9) (j+1) ((((l.take j).map (A3x K))++[tx]).map B0d) by rw[List.map_append];exact hown9);have hk9:A0j (fun k=>w.heap.size<=k) w4 w9:=A0j.ofB hb9 (Nat.le_trans (by simp) hg9.size);have HK9:=hzz (HKX.out.new hk9);have HL9:=hzz (H.out.newer HLX.out nlz hk9);clear hown9 hg9 hb9 hk9)
   go_roundg (zn-(j+1))
   case measure=>omega
   exact⟨j+1,_,_,_,by omega,rfl,rfl,by go_num,HL9,HEX,HK9,hzz (by rw[HTX.out];exact HO9.out)⟩
  ·have HTX:=hzz (show(l.take (j+1)).map (A3x K)=(l.take j).map (A3x K)++[C3b 4] by rw[HTK.out,List.map_append,List.map_singleton,(A7a K ⟨4,sa⟩ (by simp)).1])
   have HEX:=hzz (show er'=0↔er=0/\(l.take (j+1)).all (B0g K)=true by rw[HTK.out,List.all_append,HE.out];simp[(A7a K ⟨4,sa⟩ (by simp)).2]);have hlk:=hl 4 (by simp);clear hl
   obtain⟨tx,htx⟩:=exz (C3b 4);rw[<-htx]at hlk HTX;clear htx
   go_wp2_with (at_builtin;refine A3b D6a rfl _ _ rfl w.heap.size _ j _ rfl HOX.out _ 1 _ _ rfl (by simp) rfl rfl (by omega) (by unfold maxLen;omega) HKX.out.size ?_;intro v9 w9 hown9 hg9 hb9;obtain⟨a9,c9,rfl,-,-⟩:=Sl.ofOwn (enc:=B0d) (xs:=((l.take j).map (A3x K))++[tx]) (by rw[List.map_append];exact hown9);have HO9:=hzz (show w9.ownsRow w.heap.size 9 1 (.slice a9 (j+1) c9) (j+1) ((((l.take j).map (A3x K))++[tx]).map B0d) by rw[List.map_append];exact hown9);have hk9:A0j (fun k=>w.heap.size<=k) w4 w9:=A0j.ofB hb9 (Nat.le_trans (by simp) hg9.size);have HK9:=hzz (HKX.out.new hk9);have HL9:=hzz (H.out.newer HLX.out nlz hk9);clear hown9 hg9 hb9 hk9)
   go_roundg (zn-(j+1))
   case measure=>omega
   exact⟨j+1,_,_,_,by omega,rfl,rfl,by go_num,HL9,HEX,HK9,hzz (by rw[HTX.out];exact HO9.out)⟩
  ·have HTX:=hzz (show(l.take (j+1)).map (A3x K)=(l.take j).map (A3x K)++[C3b 5] by rw[HTK.out,List.map_append,List.map_singleton,(A7a K ⟨5,sa⟩ (by simp)).1])
   have HEX:=hzz (show er'=0↔er=0/\(l.take (j+1)).all (B0g K)=true by rw[HTK.out,List.all_append,HE.out];simp[(A7a K ⟨5,sa⟩ (by simp)).2]);have hlk:=hl 5 (by simp);clear hl
   obtain⟨tx,htx⟩:=exz (C3b 5);rw[<-htx]at hlk HTX;clear htx
   go_wp2_with (at_builtin;refine A3b D6a rfl _ _ rfl w.heap.size _ j _ rfl HOX.out _ 1 _ _ rfl (by simp) rfl rfl (by omega) (by unfold maxLen;omega) HKX.out.size ?_;intro v9 w9 hown9 hg9 hb9;obtain⟨a9,c9,rfl,-,-⟩:=Sl.ofOwn (enc:=B0d) (xs:=((l.take j).map (A3x K))++[tx]) (by rw[List.map_append];exact hown9);have HO9:=hzz (show w9.ownsRow w.heap.size 9 1 (.slice a9 (j+1) c9) (j+1) ((((l.take j).map (A3x K))++[tx]).map B0d) by rw[List.map_append];exact hown9);have hk9:A0j (fun k=>w.heap.size<=k) w4 w9:=A0j.ofB hb9 (Nat.le_trans (by simp) hg9.size);have HK9:=hzz (HKX.out.new hk9);have HL9:=hzz (H.out.newer HLX.out nlz hk9);clear hown9 hg9 hb9 hk9)
   go_roundg (zn-(j+1))
   case measure=>omega
   exact⟨j+1,_,_,_,by omega,rfl,rfl,by go_num,HL9,HEX,HK9,hzz (by rw[HTX.out];exact HO9.out)⟩
  have hlk:=hl 7 (by simp);rw[show C3b 7=[]from rfl]at hlk;clear hl;have HCL:=hzz (A7r w4 g a n cap K er' sa true HLX.out);have hsl:=B0q HLX.out.tx sa;have hTO:=C3a K sa
  have HIA:=hzz (fun W (hv:VW W)=>A8f W (A0s K sa).1 hsl hv);have HOB:=hzz (fun W=>C5b W (A0s K sa).1 hsl);obtain⟨ib,hib⟩:=exz (A2g (A0s K sa).1);rw[<-hib]at hTO HIA
  have HS4:=hzz hs4;generalize(A0s K sa).1=c at*
  go_wp2_with fail
  refine HCL.out.mono ?_;rintro e w5 ⟨rfl,h5,k5⟩;have HL5:=hzz h5;have HK5:=hzz (HKX.out.trans k5);have HO5:=hzz (A5d HOX.out k5 (fun x hx=> .inl (by have:=H.out.lt;omega)));clear h5 k5 HCL
  go_wp2_with fail
  refine(HIA.out w5 HL5.out.vw).mono ?_;rintro e w6 ⟨rfl,hb6⟩;have HLX:=hzz (HL5.out.below hb6);have HKX:=hzz (HK5.out.trans (A0j.of hb6));have HOX:=hzz (A0x HO5.out hb6)
  have HEX:=hzz (show A2a er' (aclsB K sa true) 8=0↔er=0/\(l.take (j+1)).all (B0g K)=true by
   rw[HTK.out,List.all_append,A1f (by decide),HE.out];simp[hTO.2,and_assoc])
  clear hb6 HIA
  cases ib
  ·have HTX:=hzz (show(l.take (j+1)).map (A3x K)=(l.take j).map (A3x K)++[D5e c] by rw[HTK.out,List.map_append,List.map_singleton,hTO.1];simp);have HOB6:=hzz (HOB.out w6)
   generalize D5e c=tx at*;clear hTO hib HOB
   go_wp2_with fail
   refine HOB6.out.mono ?_;rintro e w7 ⟨rfl,hw7⟩;subst hw7
   go_wp2_with (at_builtin;refine A3b D6a rfl _ _ rfl w.heap.size _ j _ rfl HOX.out _ 1 _ _ rfl (by simp) rfl rfl (by omega) (by unfold maxLen;omega) HKX.out.size ?_;intro v9 w9 hown9 hg9 hb9;obtain⟨a9,c9,rfl,-,-⟩:=Sl.ofOwn (enc:=B0d) (xs:=((l.take j).map (A3x K))++[tx]) (by rw[List.map_append];exact hown9);have HO9:=hzz (show w9.ownsRow w.heap.size 9 1 (.slice a9 (j+1) c9) (j+1) ((((l.take j).map (A3x K))++[tx]).map B0d) by rw[List.map_append];exact hown9);have hk9:A0j (fun k=>w.heap.size<=k) w7 w9:=A0j.ofB hb9 (Nat.le_trans (by simp) hg9.size);have HK9:=hzz (HKX.out.new hk9);have HL9:=hzz (H.out.newer HLX.out nlz hk9);clear hown9 hg9 hb9 hk9)
   go_roundg (zn-(j+1))
   case measure=>omega
   exact⟨j+1,_,_,_,by omega,rfl,rfl,by go_num,HL9,HEX,HK9,hzz (by rw[HTX.out];exact HO9.out)⟩
  have HTX:=hzz (show(l.take (j+1)).map (A3x K)=(l.take j).map (A3x K)++[c] by rw[HTK.out,List.map_append,List.map_singleton,hTO.1];simp);obtain⟨tx,htx⟩:=exz (c);subst htx;clear hTO hib HOB
  go_wp2_with (at_builtin;refine A3b D6a rfl _ _ rfl w.heap.size _ j _ rfl HOX.out _ 1 _ _ rfl (by simp) rfl rfl (by omega) (by unfold maxLen;omega) HKX.out.size ?_;intro v9 w9 hown9 hg9 hb9;obtain⟨a9,c9,rfl,-,-⟩:=Sl.ofOwn (enc:=B0d) (xs:=((l.take j).map (A3x K))++[tx]) (by rw[List.map_append];exact hown9);have HO9:=hzz (show w9.ownsRow w.heap.size 9 1 (.slice a9 (j+1) c9) (j+1) ((((l.take j).map (A3x K))++[tx]).map B0d) by rw[List.map_append];exact hown9);have hk9:A0j (fun k=>w.heap.size<=k) w6 w9:=A0j.ofB hb9 (Nat.le_trans (by simp) hg9.size);have HK9:=hzz (HKX.out.new hk9);have HL9:=hzz (H.out.newer HLX.out nlz hk9);clear hown9 hg9 hb9 hk9)
  go_roundg (zn-(j+1))
  case measure=>omega
  exact⟨j+1,_,_,_,by omega,rfl,rfl,by go_num,HL9,HEX,HK9,hzz (by rw[HTX.out];exact HO9.out)⟩
 obtain rfl:j=zn:=by omega
 have hfull:l.take j=l:=List.take_of_length_le (by rw[HZn.out];exact Nat.le_refl _);rw[hfull]at HE HOW;clear hmm hlt
 go_wp2_with fail
 go_ret;exact⟨_,_,⟨rfl,⟨er',HE.out,HL.out⟩,HK.out⟩,HOW.out⟩
end
section
open Go.ChangeShapes Go.WideShapes Go.ChangeAt Go.RowKit
def B4g(r:RW):IN:=⟨r.op,0,0,[],[],[],[]⟩
def A6k(op:Nat):Bool:=decide (op=178)||(decide (op=179)||(decide (op=180)||decide (op=181)))
def A9a(op:Nat):Bool:=decide (op=182)||decide (op=184)
def B4x(K:List KV)(L:List RW)(r:RW):IN:=
 if A0g r.op=7 then{B4g r with n:=(((C2w L r.a).getD 0:Nat):Int)}
 else if A0g r.op=8 then{B4g r with n:=r.a,m:=r.b}
 else if A0g r.op=5 then C4g K (B4g r) r.a.toNat
 else if A0g r.op=6 then
  (if r.op=20 then C4g K (B4g r) r.a.toNat
   else if A6k r.op then D7j K (B4g r) r.a 9
   else if A9a r.op then D7j K (B4g r) r.a 10
   else{B4g r with cl:=(A0s K r.a).1})
 else{B4g r with n:=r.a}
def C0j(K:List KV)(r:RW):Bool:=
 if A0g r.op=7 then true
 else if A0g r.op=8 then true
 else if A0g r.op=5 then C0k (C4g K (B4g r) r.a.toNat)
 else if A0g r.op=6 then
  (if r.op=20 then C0k (C4g K (B4g r) r.a.toNat)
   else if A6k r.op then C6k typeB K r.a 9
   else if A9a r.op then C6k A3k K r.a 10
   else aclsB K r.a (decide (r.op≠187)))
 else true
theorem A1m:(Tryz.prog.info? A2e).map (·.size)=some 7:=by kernel_rfl
theorem C6y(x:IN):x.cells.toArray.all (·.oneCell')=true:=by
 simp[IN.cells,Value.oneCell']
structure InS(w0 w:World)(g:Nat)(a:Option Addr)(n cap:Nat)(K:List KV)(er:Int)(gr gz gx:Nat)(r:RW)(x:IN)(C:Bool)(er0:Int):Prop where
 k:LfI w g a n cap K er gx x
 raw:w.heap[gr]? =some (.cells r.cells.toArray 118 (0,0))
 zero:∃z:IN,A3j gz z w
 keep:A0j (fun k=>k=g) w0 w
 e:er=0↔er0=0/\C=true
 hr:w0.heap.size<=gr
 hz:w0.heap.size<=gz
 hx:w0.heap.size<=gx
 nzx:gz≠gx
 nrx:gr≠gx
 nrz:gr≠gz
theorem InS.put{w0 w:World}{g:Nat}{a:Option Addr}{n cap:Nat}{K:List KV}{er:Int}{gr gz gx:Nat}{r:RW}{x x':IN}{C:Bool}{er0:Int}(h:InS w0 w g a n cap K er gr gz gx r x C er0)(o:Nat)(v:Value)(hi:A3j gx x' (w.setCell ⟨gx,o,none⟩ v)):
  InS w0 (w.setCell ⟨gx,o,none⟩ v) g a n cap K er gr gz gx r x' C er0:=by
 obtain⟨z,hz⟩:=h.zero;exact⟨h.k.put o v hi,A1r h.raw h.nrx _ _,⟨z,A1r hz h.nzx _ _⟩,h.keep.set (.inr h.hx) o v,h.e,h.hr,h.hz,h.hx,h.nzx,h.nrx,h.nrz⟩
theorem InS.call{w0 w w':World}{g:Nat}{a:Option Addr}{n cap:Nat}{K:List KV}{er er':Int}{gr gz gx:Nat}{r:RW}{x x':IN}{er0:Int}{C:Bool}(h:InS w0 w g a n cap K er gr gz gx r x true er0)(hk:LfI w' g a n cap K er' gx x')(hp:A0j (fun k=>k=g\/k=gx) w w')(he:er'=0↔er=0/\C=true)(hg:g<w0.heap.size):
  InS w0 w' g a n cap K er' gr gz gx r x' C er0:=by
 obtain⟨z,hz⟩:=h.zero;have h1:=h.hr;have h2:=h.hz;refine⟨hk,hp.row h.raw (fun e=> ?_),⟨z,hp.row hz (fun e=> ?_)⟩,?_,by rw[he,h.e];simp,h.hr,h.hz,h.hx,h.nzx,h.nrx,h.nrz⟩
 ·rcases e with e|e
  ·omega
  exact h.nrx e
 ·rcases e with e|e
  ·omega
  exact h.nzx e
 have h3:=h.hx
 exact⟨hp.os.trans h.keep.os,hp.tape.trans h.keep.tape,hp.output.trans h.keep.output,Nat.le_trans h.keep.size hp.size,fun i hi hgi=>by
  rw[hp.block i (Nat.lt_of_lt_of_le hi h.keep.size) (fun e=>by rcases e with e|e;exact hgi e;omega),h.keep.block i hi hgi]⟩
theorem InS.calln{w0 w w':World}{g:Nat}{a:Option Addr}{n cap:Nat}{K:List KV}{er er':Int}{gr gz gx:Nat}{r:RW}{x:IN}{er0:Int}{C:Bool}(h:InS w0 w g a n cap K er gr gz gx r x true er0)(hk:LfS w' g a n cap K er')(hp:A0j (fun k=>k=g) w w')(he:er'=0↔er=0/\C=true)(hg:g<w0.heap.size):
  InS w0 w' g a n cap K er' gr gz gx r x C er0:=
 h.call ⟨hk,h.k.i.keep hp (fun e=>h.k.ne e),h.k.ne,h.k.z,h.k.off⟩ (hp.weak fun k _ e=> .inl e) he hg
theorem A0y{P:Program}{ops:Array Oper}{rest:List Oper}{o:Oper}{a:Act}{w:World}{Q:Exit->Act->World->Prop}(hgd:Region.wanted o (yielded ops a.tmps)=true)(ty:TypeId)(x:Operand)(ho:o.op= .load ty x)
  (g:Nat) (hx:a.eval x= .pointer (some ⟨g,0,none⟩)) (t:TypeId) (cs:Array Value) (fr:Nat×Nat) (d:TypeDesc) (hg:w.heap[g]? =some (.cells cs t fr))
  (hu:P.underlying ty=some d) (hd:(match d with| .struct _| .array _ _=>true|_=>false)=true) (hi:(P.info? ty).map (·.size)=some cs.size)
  (h:wpList P ops Q rest (a.put o.dst (.agg cs)) w):wpList P ops Q (o::rest) a w:=by
 refine wpList_step fun K hK=> ?_
 rw[if_pos hgd];exact wp_load_row ty x ho g hx t cs fr d hg hu hd hi (hK _ _ h)
theorem A0j.setrow{p:Nat->Prop}{w w1:World}(h:A0j p w w1){g:Nat}(hg:p g\/w.heap.size<=g)(cs:Array Value):A0j p w (w1.setRow g cs):=
 ⟨h.os,h.tape,h.output,by have:=h.size;simpa[World.setRow]using this,fun k hk hq=>by
  rw[<-h.block k hk hq];refine setRow_other w1 g k cs ?_;rintro rfl
  rcases hg with h1|h1
  ·exact hq h1
  omega⟩
theorem InS.done{w0 w:World}{g:Nat}{a:Option Addr}{n cap:Nat}{K:List KV}{er:Int}{gr gz gx:Nat}{r:RW}{x:IN}{C:Bool}{er0:Int}(h:InS w0 w g a n cap K er gr gz gx r x C er0)(h0:LfS w0 g a n cap K er0)(cs:Array Value):
  LfR (.agg x.cells.toArray) g a n cap K er0 C w0 (.returned (.agg x.cells.toArray)) (w.setRow gz cs):=
 ⟨rfl,⟨er,h.e,h0.newer h.k.k nlz ((A0j.refl _ _).setrow (.inl h.hz) cs)⟩,h.keep.setrow (.inr h.hz) cs⟩
theorem InS.turn{w0 w w':World}{g:Nat}{a:Option Addr}{n cap:Nat}{K:List KV}{er:Int}{gr gz gx:Nat}{r:RW}{x:IN}{C:Bool}{er0:Int}(h:InS w0 w g a n cap K er gr gz gx r x C er0)(hb:Below w.heap.size w w'):InS w0 w' g a n cap K er gr gz gx r x C er0:=by
 obtain⟨z,hz⟩:=h.zero;exact⟨h.k.below hb,A0e h.raw hb,⟨z,A0e hz hb⟩,h.keep.trans (A0j.of hb),h.e,h.hr,h.hz,h.hx,h.nzx,h.nrx,h.nrz⟩
theorem D3d(w:World)(g:Nat)(a:Option Addr)(n cap:Nat)(K:List KV)(er:Int)(r:RW)(L:List RW)(b:Nat)(h:LfS w g a n cap K er)(hp:A8n w b L)(hb:b≠g)(hop:r.op<256)(hra:A4b r.a)(hc:A0g r.op=5\/A0g r.op=6->0<=r.a/\r.a<1048576):
  Calls Tryz.prog 55 #[.pointer (some ⟨g,0,none⟩),.agg #[.int .i64 r.pos,.int .u8 (r.op:Nat),.int .i64 r.a,.int .i64 r.b],.map (some b)] w (LfR (.agg (B4x K L r).cells.toArray) g a n cap K er (C0j K r) w):=by
 have H:=hzz h;have HP:=hzz hp;have hHF:=fun w=>B1b w r.op hop
 have hbl:=hp.lt;obtain⟨V,hV⟩:=exz (B4x K L r);obtain⟨C,hC⟩:=exz (C0j K r);have HV:=hV;have HC:=hC;unfold B4x at HV;unfold C0j at HC;rw[<-hV,<-hC];clear hV hC
 obtain⟨f,hf⟩:=exz (A0g r.op);rw[<-hf]at HV HC hc;have hHF2:∀w,Calls Tryz.prog 102 #[.int .u8 (r.op:Nat)] w (B7e (.int .i64 (f:Nat)) w):=fun w=>by rw[hf];exact hHF w
 have HF:=hzz hHF2
 have HI0:InS w (((w.alloc (.cells r.cells.toArray 118)).alloc (.cells (⟨0,0,0,[],[],[],[]⟩:IN).cells.toArray A2e)).alloc (.cells (B4g r).cells.toArray A2e)) g a n cap K er w.heap.size (w.heap.size+1) (w.heap.size+1+1) r (B4g r) true er:=by
  have b1:=(((Below.refl w.heap.size w).alloc nlz (.cells r.cells.toArray 118)).alloc (by simp) (.cells (⟨0,0,0,[],[],[],[]⟩:IN).cells.toArray A2e)).alloc (by simp;omega) (.cells (B4g r).cells.toArray A2e)
  have h9:=h.lt;have h8:=h.g0
  have hof:B1t a n (w.heap.size+1+1):=fun hn b off e hh=>by
   obtain⟨b',off',e2,hlt,_⟩:=h.ks.2 hn;rw[e]at e2
   cases e2
   omega
  refine⟨⟨h.below b1,?_,by omega,by omega,hof⟩,?_,⟨⟨0,0,0,[],[],[],[]⟩,?_⟩,A0j.of b1,by simp,by omega,by omega,by omega,by omega,by omega,by omega⟩
  ·unfold A3j;have:=heap_alloc_last ((w.alloc (.cells r.cells.toArray 118)).alloc (.cells (⟨0,0,0,[],[],[],[]⟩:IN).cells.toArray A2e)) (.cells (B4g r).cells.toArray A2e);simpa using this
  ·rw[Below.heap_alloc _ _ _ (by simp;omega),Below.heap_alloc _ _ _ (by simp)];exact heap_alloc_last w _
  unfold A3j;rw[Below.heap_alloc _ _ _ (by simp)];have:=heap_alloc_last (w.alloc (.cells r.cells.toArray 118)) (.cells (⟨0,0,0,[],[],[],[]⟩:IN).cells.toArray A2e);simpa using this
 have HI:=hzz HI0;have HVV:=hzz HV;have HCC:=hzz HC;have HHC:=hzz hc;have HRA:=hzz hra;clear h hp hHF hHF2 HV HC hc hra hf HI0;go_enter Tryz.func55,Tryz.ntmps55
 go_upto_region 2 with fail
 change Hid (InS w (((w.alloc (.cells #[.int .i64 r.pos,.int .u8 (r.op:Nat),.int .i64 r.a,.int .i64 r.b] 118)).alloc (.cells #[.int .u8 0,.int .i64 0,.int .i64 0,.string ⟨#[]⟩,.string ⟨#[]⟩,.string ⟨#[]⟩,.string ⟨#[]⟩] 54)).alloc (.cells #[.int .u8 (r.op:Nat),.int .i64 0,.int .i64 0,.string ⟨#[]⟩,.string ⟨#[]⟩,.string ⟨#[]⟩,.string ⟨#[]⟩] 54)) g a n cap K er w.heap.size (w.heap.size+1) (w.heap.size+1+1) r (B4g r) true er)at HI
 generalize((w.alloc (.cells #[.int .i64 r.pos,.int .u8 (r.op:Nat),.int .i64 r.a,.int .i64 r.b] 118)).alloc (.cells #[.int .u8 0,.int .i64 0,.int .i64 0,.string ⟨#[]⟩,.string ⟨#[]⟩,.string ⟨#[]⟩,.string ⟨#[]⟩] 54)).alloc (.cells #[.int .u8 (r.op:Nat),.int .i64 0,.int .i64 0,.string ⟨#[]⟩,.string ⟨#[]⟩,.string ⟨#[]⟩,.string ⟨#[]⟩] 54)=W at HI⊢
 have r1:=A0a HI.out.raw 1 rfl;dsimp[RW.cells]at r1
 go_wp2_with fail
 refine(HF.out W).mono ?_;rintro e w1 ⟨rfl,hb1⟩;have HI1:=hzz (HI.out.turn hb1);have HP1:=hzz (HP.out.keep HI1.out.keep hb);have hs1:w.heap.size<=w1.heap.size:=HI1.out.keep.size
 have hgl:g<w.heap.size:=H.out.lt;have i0:=A0a HI1.out.k.i 0 rfl;have i1:=A0a HI1.out.k.i 1 rfl;have i2:=A0a HI1.out.k.i 2 rfl;have i3:=A0a HI1.out.k.i 3 rfl
 have q1:=A0a HI1.out.raw 1 rfl;have q2:=A0a HI1.out.raw 2 rfl;have q3:=A0a HI1.out.raw 3 rfl;dsimp[RW.cells,IN.cells,B4g]at i0 i1 i2 i3 q1 q2 q3;clear HI r1 hb1 HP HF hop
 obtain⟨-,-,-,-,-,-,-,f1,f2,f3,-,-,-⟩:=HI1.out.k.i.box;by_cases f7:f=7
 ·have e7:((f:Int)==7)=true:=by subst f7;rfl
  have HV2:=hzz (HVV.out.trans (if_pos f7));have HC2:=hzz (HCC.out.trans (if_pos f7));have hlk:=D6e HP1.out r.a HRA.out;obtain rfl:C=true:=HC2.out;clear f7 HVV HCC HC2 HHC
  go_upto_region 23 with fail
  have HI2:=hzz (HI1.out.put 1 _ (HI1.out.k.i.set1 (((C2w L r.a).getD 0:Nat):Int)));obtain⟨z,hz⟩:=HI2.out.zero;have HZ:=hzz hz;clear hz;refine wp_region_lit ?_
  refine A0y rfl _ _ rfl _ rfl _ _ _ _ HI2.out.k.i Tryz.underlying54 rfl A1m ?_;refine wpList_store_row rfl _ _ _ rfl _ _ rfl rfl _ _ HZ.out A1m rfl (C6y _) ?_
  go_wp2_with fail
  refine bodyPost_ret (results_cell_row rfl _ _ (w.heap.size+1) A2e (IN.cells _).toArray (0,0) _ rfl (setRow_heap _ _ _ _ _ _ HZ.out) Tryz.underlying54 rfl A1m) rfl ?_;rw[HV2.out]
  exact HI2.out.done H.out _
 have e7:((f:Int)==7)=false:=by rw[beq_eq_false_iff_ne];omega
 replace HVV:=hzz (HVV.out.trans (if_neg f7));replace HCC:=hzz (HCC.out.trans (if_neg f7));by_cases f8:f=8
 ·have e8:((f:Int)==8)=true:=by subst f8;rfl
  have HV2:=hzz (HVV.out.trans (if_pos f8));have HC2:=hzz (HCC.out.trans (if_pos f8));obtain rfl:C=true:=HC2.out;clear f7 f8 HVV HCC HC2 HHC HP1 i0 i3 q1
  go_upto_region 7 with fail
  have ld2:∀w':World,w'.heap[w.heap.size]? =some (.cells r.cells.toArray 118 (0,0))->w'.cell? ⟨w.heap.size,2,none⟩=some (.int .i64 r.a):=fun w' h=>A0a h 2 rfl
  have ld3:∀w':World,w'.heap[w.heap.size]? =some (.cells r.cells.toArray 118 (0,0))->w'.cell? ⟨w.heap.size,3,none⟩=some (.int .i64 r.b):=fun w' h=>A0a h 3 rfl
  have HID:=hzz (HI1.out.turn (brz.drew));have hSw:w1.drew.heap[w.heap.size]? =some (.cells r.cells.toArray 118 (0,0)):=HID.out.raw
  have fd1:w1.drew.frozen? ⟨w.heap.size+1+1,1,none⟩=false:=HID.out.k.i.box.f1
  refine A0h (fun wx=>wx.heap[w.heap.size]? =some (.cells r.cells.toArray 118 (0,0))) (.of [(0,true),(1,true),(2,true),(3,true),(4,true),(5,false),(6,true),(7,false)] (.stir [])) (by kernel_rfl) (by kernel_rfl) (fun c a d v w h=>by cases d<;>exact h) ?_
  iterate 5
   refine A0b fun K hK=>tkF ?_
   go_simp
   try go_bits
   refine hK _ _ ?_;clear hK K
  have HI2:=hzz (HID.out.put 1 _ (HID.out.k.i.set1 r.a));refine A0b fun K hK=>alF ?_
  go_step;have hS2:(w1.drew.setCell ⟨w.heap.size+1+1,1,none⟩ (.int .i64 r.a)).heap[w.heap.size]? =some (.cells r.cells.toArray 118 (0,0)):=HI2.out.raw;refine⟨hS2,hK _ _ ?_⟩
  clear hK K hSw fd1 HID HI1;have hSw:=hS2;clear hS2;have fd2:(w1.drew.setCell ⟨w.heap.size+1+1,1,none⟩ (.int .i64 r.a)).frozen? ⟨w.heap.size+1+1,2,none⟩=false:=HI2.out.k.i.box.f2
  iterate 1
   refine A0b fun K hK=>tkF ?_
   go_simp
   try go_bits
   refine hK _ _ ?_;clear hK K
  have HI3:=hzz (HI2.out.put 2 _ (HI2.out.k.i.set2 r.b));refine A0b fun K hK=>alF ?_
  go_step
  have hS3:((w1.drew.setCell ⟨w.heap.size+1+1,1,none⟩ (.int .i64 r.a)).setCell ⟨w.heap.size+1+1,2,none⟩ (.int .i64 r.b)).heap[w.heap.size]? =some (.cells r.cells.toArray 118 (0,0)):=HI3.out.raw
  refine⟨hS3,hK _ _ ?_⟩;clear hK K hSw fd2 HI2
  refine A0m (fun y=>y=(w1.drew.setCell ⟨w.heap.size+1+1,1,none⟩ (.int .i64 r.a)).setCell ⟨w.heap.size+1+1,2,none⟩ (.int .i64 r.b)) (fun y hy=>hy▸hS3) rfl ?_
  refine A0p (fun y hy=> ?_);subst hy;clear hS3 ld2 ld3 f1 f2 f3
  go_upto_region 23 with fail
  obtain⟨z,hz⟩:=HI3.out.zero;have HZ:=hzz hz;clear hz;refine wp_region_lit ?_;refine A0y rfl _ _ rfl _ rfl _ _ _ _ HI3.out.k.i Tryz.underlying54 rfl A1m ?_
  refine wpList_store_row rfl _ _ _ rfl _ _ rfl rfl _ _ HZ.out A1m rfl (C6y _) ?_
  go_wp2_with fail
  refine bodyPost_ret (results_cell_row rfl _ _ (w.heap.size+1) A2e (IN.cells _).toArray (0,0) _ rfl (setRow_heap _ _ _ _ _ _ HZ.out) Tryz.underlying54 rfl A1m) rfl ?_;rw[HV2.out]
  exact HI3.out.done H.out _
 have e8:((f:Int)==8)=false:=by rw[beq_eq_false_iff_ne];omega
 replace HVV:=hzz (HVV.out.trans (if_neg f8));replace HCC:=hzz (HCC.out.trans (if_neg f8));by_cases f5:f=5\/f=6
 ·obtain⟨a0,a1⟩:=HHC.out f5;obtain⟨at_,hat⟩:=exz (r.a.toNat);have hra:r.a=(at_:Int):=by omega
  have hat2:at_<1048576:=by omega
  have HCON:=hzz (C5r w1 g a n cap K er (w.heap.size+1+1) (B4g r) at_ hat2 HI1.out.k);have HRAT:=hzz hra;rw[<-hat]at HVV HCC;rw[<-hra]at HCON;clear hra hat hat2 a0 a1;by_cases f6:f=5
  ·have e5:((f:Int)==5)=true:=by subst f6;rfl
   have HV2:=hzz (HVV.out.trans (if_pos f6));have HC2:=hzz (HCC.out.trans (if_pos f6));obtain rfl:C=C0k (C4g K (B4g r) at_):=HC2.out;clear f7 f8 f5 f6 HVV HCC HC2 HHC HP1 i0 i1 i2 i3 q1 f1 f2 f3
   go_wp2_with fail
   refine HCON.out.mono ?_;rintro e w2 ⟨rfl,hI2,k2⟩;have HI2:=hzz (HI1.out.call hI2 k2 (A1f (by decide)) hgl);clear hI2 k2 HCON HI1 q2 q3
   go_upto_region 23 with fail
   obtain⟨z,hz⟩:=HI2.out.zero;have HZ:=hzz hz;clear hz;refine wp_region_lit ?_;refine A0y rfl _ _ rfl _ rfl _ _ _ _ HI2.out.k.i Tryz.underlying54 rfl A1m ?_
   refine wpList_store_row rfl _ _ _ rfl _ _ rfl rfl _ _ HZ.out A1m rfl (C6y _) ?_
   go_wp2_with fail
   refine bodyPost_ret (results_cell_row rfl _ _ (w.heap.size+1) A2e (IN.cells _).toArray (0,0) _ rfl (setRow_heap _ _ _ _ _ _ HZ.out) Tryz.underlying54 rfl A1m) rfl ?_;rw[HV2.out]
   exact HI2.out.done H.out _
  have e5:((f:Int)==5)=false:=by rw[beq_eq_false_iff_ne];omega
  have e6:((f:Int)==6)=true:=by rw[beq_iff_eq];omega
  replace HVV:=hzz (HVV.out.trans ((if_neg f6).trans (if_pos (show f=6 by omega))));replace HCC:=hzz (HCC.out.trans ((if_neg f6).trans (if_pos (show f=6 by omega))));clear f7 f8 f5 f6 HHC HP1 i0 i1 i2 i3
  by_cases o20:r.op=20
  ·have e20:((r.op:Int)==20)=true:=by rw[o20];rfl
   have HV2:=hzz (HVV.out.trans (if_pos o20));have HC2:=hzz (HCC.out.trans (if_pos o20));obtain rfl:C=C0k (C4g K (B4g r) at_):=HC2.out;clear o20 HVV HCC HC2 f1 f2 f3
   go_wp2_with fail
   refine HCON.out.mono ?_;rintro e w2 ⟨rfl,hI2,k2⟩;have HI2:=hzz (HI1.out.call hI2 k2 (A1f (by decide)) hgl);clear hI2 k2 HCON HI1 q2 q3 q1
   go_upto_region 23 with fail
   obtain⟨z,hz⟩:=HI2.out.zero;have HZ:=hzz hz;clear hz;refine wp_region_lit ?_;refine A0y rfl _ _ rfl _ rfl _ _ _ _ HI2.out.k.i Tryz.underlying54 rfl A1m ?_
   refine wpList_store_row rfl _ _ _ rfl _ _ rfl rfl _ _ HZ.out A1m rfl (C6y _) ?_
   go_wp2_with fail
   refine bodyPost_ret (results_cell_row rfl _ _ (w.heap.size+1) A2e (IN.cells _).toArray (0,0) _ rfl (setRow_heap _ _ _ _ _ _ HZ.out) Tryz.underlying54 rfl A1m) rfl ?_;rw[HV2.out]
   exact HI2.out.done H.out _
  have e20:((r.op:Int)==20)=false:=by rw[beq_eq_false_iff_ne];omega
  replace HVV:=hzz (HVV.out.trans (if_neg o20));replace HCC:=hzz (HCC.out.trans (if_neg o20));clear HCON o20
  have HMB:=hzz (fun t fis p hen hp=>C2p w1 g a n cap K er (w.heap.size+1+1) (B4g r) r.a t fis p hen hp HI1.out.k);by_cases o178:r.op=178
  ·have e178:((r.op:Int)==178)=true:=by rw[o178];rfl
   have hM:A6k r.op=true:=by rw[o178];rfl
   have HV2:=hzz (HVV.out.trans (if_pos hM));have HC2:=hzz (HCC.out.trans (if_pos hM));obtain rfl:C=C6k typeB K r.a 9:=HC2.out
   have HM2:=hzz (HMB.out 9 23 typeB (fun _ _=>rfl) (fun W s hs hv=>A2v W s hs hv));clear hM HVV HCC HC2 HMB f1 f2 f3 o178
   go_wp2_with fail
   refine HM2.out.mono ?_;rintro e w2 ⟨rfl,hI2,k2⟩;have HI2:=hzz (HI1.out.call hI2 k2 (A1f (by decide)) hgl);clear hI2 k2 HM2 HI1 q2 q3 q1
   go_upto_region 23 with fail
   obtain⟨z,hz⟩:=HI2.out.zero;have HZ:=hzz hz;clear hz;refine wp_region_lit ?_;refine A0y rfl _ _ rfl _ rfl _ _ _ _ HI2.out.k.i Tryz.underlying54 rfl A1m ?_
   refine wpList_store_row rfl _ _ _ rfl _ _ rfl rfl _ _ HZ.out A1m rfl (C6y _) ?_
   go_wp2_with fail
   refine bodyPost_ret (results_cell_row rfl _ _ (w.heap.size+1) A2e (IN.cells _).toArray (0,0) _ rfl (setRow_heap _ _ _ _ _ _ HZ.out) Tryz.underlying54 rfl A1m) rfl ?_;rw[HV2.out]
   exact HI2.out.done H.out _
  have e178:((r.op:Int)==178)=false:=by rw[beq_eq_false_iff_ne];omega
  by_cases o179:r.op=179
  ·have e179:((r.op:Int)==179)=true:=by rw[o179];rfl
   have hM:A6k r.op=true:=by rw[o179];rfl
   have HV2:=hzz (HVV.out.trans (if_pos hM));have HC2:=hzz (HCC.out.trans (if_pos hM));obtain rfl:C=C6k typeB K r.a 9:=HC2.out
   have HM2:=hzz (HMB.out 9 23 typeB (fun _ _=>rfl) (fun W s hs hv=>A2v W s hs hv));clear hM HVV HCC HC2 HMB f1 f2 f3 o178 o179
   go_wp2_with fail
   refine HM2.out.mono ?_;rintro e w2 ⟨rfl,hI2,k2⟩;have HI2:=hzz (HI1.out.call hI2 k2 (A1f (by decide)) hgl);clear hI2 k2 HM2 HI1 q2 q3 q1
   go_upto_region 23 with fail
   obtain⟨z,hz⟩:=HI2.out.zero;have HZ:=hzz hz;clear hz;refine wp_region_lit ?_;refine A0y rfl _ _ rfl _ rfl _ _ _ _ HI2.out.k.i Tryz.underlying54 rfl A1m ?_
   refine wpList_store_row rfl _ _ _ rfl _ _ rfl rfl _ _ HZ.out A1m rfl (C6y _) ?_
   go_wp2_with fail
   refine bodyPost_ret (results_cell_row rfl _ _ (w.heap.size+1) A2e (IN.cells _).toArray (0,0) _ rfl (setRow_heap _ _ _ _ _ _ HZ.out) Tryz.underlying54 rfl A1m) rfl ?_;rw[HV2.out]
   exact HI2.out.done H.out _
  have e179:((r.op:Int)==179)=false:=by rw[beq_eq_false_iff_ne];omega
  by_cases o180:r.op=180
  ·have e180:((r.op:Int)==180)=true:=by rw[o180];rfl
   have hM:A6k r.op=true:=by rw[o180];rfl
   have HV2:=hzz (HVV.out.trans (if_pos hM));have HC2:=hzz (HCC.out.trans (if_pos hM));obtain rfl:C=C6k typeB K r.a 9:=HC2.out
   have HM2:=hzz (HMB.out 9 23 typeB (fun _ _=>rfl) (fun W s hs hv=>A2v W s hs hv));clear hM HVV HCC HC2 HMB f1 f2 f3 o178 o179 o180
   go_wp2_with fail
   refine HM2.out.mono ?_;rintro e w2 ⟨rfl,hI2,k2⟩;have HI2:=hzz (HI1.out.call hI2 k2 (A1f (by decide)) hgl);clear hI2 k2 HM2 HI1 q2 q3 q1
   go_upto_region 23 with fail
   obtain⟨z,hz⟩:=HI2.out.zero;have HZ:=hzz hz;clear hz;refine wp_region_lit ?_;refine A0y rfl _ _ rfl _ rfl _ _ _ _ HI2.out.k.i Tryz.underlying54 rfl A1m ?_
   refine wpList_store_row rfl _ _ _ rfl _ _ rfl rfl _ _ HZ.out A1m rfl (C6y _) ?_
   go_wp2_with fail
   refine bodyPost_ret (results_cell_row rfl _ _ (w.heap.size+1) A2e (IN.cells _).toArray (0,0) _ rfl (setRow_heap _ _ _ _ _ _ HZ.out) Tryz.underlying54 rfl A1m) rfl ?_;rw[HV2.out]
   exact HI2.out.done H.out _
  have e180:((r.op:Int)==180)=false:=by rw[beq_eq_false_iff_ne];omega
  by_cases o181:r.op=181
  ·have e181:((r.op:Int)==181)=true:=by rw[o181];rfl
   have hM:A6k r.op=true:=by rw[o181];rfl
   have HV2:=hzz (HVV.out.trans (if_pos hM));have HC2:=hzz (HCC.out.trans (if_pos hM));obtain rfl:C=C6k typeB K r.a 9:=HC2.out
   have HM2:=hzz (HMB.out 9 23 typeB (fun _ _=>rfl) (fun W s hs hv=>A2v W s hs hv));clear hM HVV HCC HC2 HMB f1 f2 f3 o178 o179 o180 o181
   go_wp2_with fail
   refine HM2.out.mono ?_;rintro e w2 ⟨rfl,hI2,k2⟩;have HI2:=hzz (HI1.out.call hI2 k2 (A1f (by decide)) hgl);clear hI2 k2 HM2 HI1 q2 q3 q1
   go_upto_region 23 with fail
   obtain⟨z,hz⟩:=HI2.out.zero;have HZ:=hzz hz;clear hz;refine wp_region_lit ?_;refine A0y rfl _ _ rfl _ rfl _ _ _ _ HI2.out.k.i Tryz.underlying54 rfl A1m ?_
   refine wpList_store_row rfl _ _ _ rfl _ _ rfl rfl _ _ HZ.out A1m rfl (C6y _) ?_
   go_wp2_with fail
   refine bodyPost_ret (results_cell_row rfl _ _ (w.heap.size+1) A2e (IN.cells _).toArray (0,0) _ rfl (setRow_heap _ _ _ _ _ _ HZ.out) Tryz.underlying54 rfl A1m) rfl ?_;rw[HV2.out]
   exact HI2.out.done H.out _
  have e181:((r.op:Int)==181)=false:=by rw[beq_eq_false_iff_ne];omega
  have hM:A6k r.op=false:=by simp[A6k,o178,o179,o180,o181]
  replace HVV:=hzz (HVV.out.trans (if_neg (by rw[hM];decide)));replace HCC:=hzz (HCC.out.trans (if_neg (by rw[hM];decide)));clear hM o178 o179 o180 o181;by_cases o182:r.op=182
  ·have e182:((r.op:Int)==182)=true:=by rw[o182];rfl
   have hM:A9a r.op=true:=by rw[o182];rfl
   have HV2:=hzz (HVV.out.trans (if_pos hM));have HC2:=hzz (HCC.out.trans (if_pos hM));obtain rfl:C=C6k A3k K r.a 10:=HC2.out
   have HM2:=hzz (HMB.out 10 52 A3k (fun _ _=>rfl) (fun W s hs hv=>A4t W s hs hv));clear hM HVV HCC HC2 HMB f1 f2 f3 o182
   go_wp2_with fail
   refine HM2.out.mono ?_;rintro e w2 ⟨rfl,hI2,k2⟩;have HI2:=hzz (HI1.out.call hI2 k2 (A1f (by decide)) hgl);clear hI2 k2 HM2 HI1 q2 q3 q1
   go_upto_region 23 with fail
   obtain⟨z,hz⟩:=HI2.out.zero;have HZ:=hzz hz;clear hz;refine wp_region_lit ?_;refine A0y rfl _ _ rfl _ rfl _ _ _ _ HI2.out.k.i Tryz.underlying54 rfl A1m ?_
   refine wpList_store_row rfl _ _ _ rfl _ _ rfl rfl _ _ HZ.out A1m rfl (C6y _) ?_
   go_wp2_with fail
   refine bodyPost_ret (results_cell_row rfl _ _ (w.heap.size+1) A2e (IN.cells _).toArray (0,0) _ rfl (setRow_heap _ _ _ _ _ _ HZ.out) Tryz.underlying54 rfl A1m) rfl ?_;rw[HV2.out]
   exact HI2.out.done H.out _
  have e182:((r.op:Int)==182)=false:=by rw[beq_eq_false_iff_ne];omega
  by_cases o184:r.op=184
  ·have e184:((r.op:Int)==184)=true:=by rw[o184];rfl
   have hM:A9a r.op=true:=by rw[o184];rfl
   have HV2:=hzz (HVV.out.trans (if_pos hM));have HC2:=hzz (HCC.out.trans (if_pos hM));obtain rfl:C=C6k A3k K r.a 10:=HC2.out
   have HM2:=hzz (HMB.out 10 52 A3k (fun _ _=>rfl) (fun W s hs hv=>A4t W s hs hv));clear hM HVV HCC HC2 HMB f1 f2 f3 o182 o184
   go_wp2_with fail
   refine HM2.out.mono ?_;rintro e w2 ⟨rfl,hI2,k2⟩;have HI2:=hzz (HI1.out.call hI2 k2 (A1f (by decide)) hgl);clear hI2 k2 HM2 HI1 q2 q3 q1
   go_upto_region 23 with fail
   obtain⟨z,hz⟩:=HI2.out.zero;have HZ:=hzz hz;clear hz;refine wp_region_lit ?_;refine A0y rfl _ _ rfl _ rfl _ _ _ _ HI2.out.k.i Tryz.underlying54 rfl A1m ?_
   refine wpList_store_row rfl _ _ _ rfl _ _ rfl rfl _ _ HZ.out A1m rfl (C6y _) ?_
   go_wp2_with fail
   refine bodyPost_ret (results_cell_row rfl _ _ (w.heap.size+1) A2e (IN.cells _).toArray (0,0) _ rfl (setRow_heap _ _ _ _ _ _ HZ.out) Tryz.underlying54 rfl A1m) rfl ?_;rw[HV2.out]
   exact HI2.out.done H.out _
  have e184:((r.op:Int)==184)=false:=by rw[beq_eq_false_iff_ne];omega
  have hM:A9a r.op=false:=by simp[A9a,o182,o184]
  replace HVV:=hzz (HVV.out.trans (if_neg (by rw[hM];decide)));replace HCC:=hzz (HCC.out.trans (if_neg (by rw[hM];decide)));clear hM o182 o184
  have e187:((r.op:Int) !=187)=decide (r.op≠187):=by
   rw[Bool.eq_iff_iff];simp;omega
  have HCL:=hzz (A7r w1 g a n cap K er r.a (decide (r.op≠187)) HI1.out.k.k);obtain rfl:C=aclsB K r.a (decide (r.op≠187)):=HCC.out;generalize decide (r.op≠187)=dc at*;clear HCC HMB f1 f2 f3
  go_wp2_with fail
  refine HCL.out.mono ?_;rintro e w2 ⟨rfl,hI2,k2⟩;have HI2:=hzz (HI1.out.calln hI2 k2 (A1f (by decide)) hgl);have f3:=HI2.out.k.i.box.f3;have c3:=HI2.out.k.i.box.c3;clear hI2 k2 HCL HI1 q2 q3 q1
  go_upto_region 23 with fail
  have HI3:=hzz (HI2.out.put 3 _ (HI2.out.k.i.set3 (A0s K r.a).1));obtain⟨z,hz⟩:=HI3.out.zero;have HZ:=hzz hz;clear hz;refine wp_region_lit ?_
  refine A0y rfl _ _ rfl _ rfl _ _ _ _ HI3.out.k.i Tryz.underlying54 rfl A1m ?_;refine wpList_store_row rfl _ _ _ rfl _ _ rfl rfl _ _ HZ.out A1m rfl (C6y _) ?_
  go_wp2_with fail
  refine bodyPost_ret (results_cell_row rfl _ _ (w.heap.size+1) A2e (IN.cells _).toArray (0,0) _ rfl (setRow_heap _ _ _ _ _ _ HZ.out) Tryz.underlying54 rfl A1m) rfl ?_;rw[HVV.out]
  exact HI3.out.done H.out _
 have e5:((f:Int)==5)=false:=by rw[beq_eq_false_iff_ne];omega
 have e6:((f:Int)==6)=false:=by rw[beq_eq_false_iff_ne];omega
 replace HVV:=hzz (HVV.out.trans ((if_neg (show ¬f=5 by omega)).trans (if_neg (show ¬f=6 by omega))))
 replace HCC:=hzz (HCC.out.trans ((if_neg (show ¬f=5 by omega)).trans (if_neg (show ¬f=6 by omega))));obtain rfl:C=true:=HCC.out;clear f7 f8 f5 HCC HHC HP1
 go_upto_region 23 with fail
 have HI2:=hzz (HI1.out.put 1 _ (HI1.out.k.i.set1 r.a));obtain⟨z,hz⟩:=HI2.out.zero;have HZ:=hzz hz;clear hz;refine wp_region_lit ?_
 refine A0y rfl _ _ rfl _ rfl _ _ _ _ HI2.out.k.i Tryz.underlying54 rfl A1m ?_;refine wpList_store_row rfl _ _ _ rfl _ _ rfl rfl _ _ HZ.out A1m rfl (C6y _) ?_
 go_wp2_with fail
 refine bodyPost_ret (results_cell_row rfl _ _ (w.heap.size+1) A2e (IN.cells _).toArray (0,0) _ rfl (setRow_heap _ _ _ _ _ _ HZ.out) Tryz.underlying54 rfl A1m) rfl ?_;rw[HVV.out];exact HI2.out.done H.out _
structure UT where
 fr:Int
 tt:Int
 pl:Int
 cl:List UInt8
def UT.cells(t:UT):List Value:=[.int .i64 t.fr,.int .i64 t.tt,.int .i64 t.pl,.string ⟨t.cl.toArray⟩]
theorem UT.cells_length(t:UT):t.cells.length=4:=rfl
structure UP where
 pl:Int
 la:Option Addr
 ln:Nat
 lc:Nat
 loc:List (List UInt8)
 sa:Option Addr
 sn:Nat
 sc:Nat
 stk:List (List UInt8)
def UP.cells(p:UP):List Value:=[.int .i64 p.pl,.slice p.la p.ln p.lc,.slice p.sa p.sn p.sc]
theorem UP.cells_length(p:UP):p.cells.length=3:=rfl
def UP.p(p:UP):UP:=⟨p.pl,none,0,0,p.loc,none,0,0,p.stk⟩
structure UP.Rd(p:UP)(w:World):Prop where
 loc:Sl B0d w p.la p.ln p.loc
 stk:Sl B0d w p.sa p.sn p.stk
theorem UP.Rd.below{p:UP}{w w':World}(h:p.Rd w)(hb:Below w.heap.size w w'):p.Rd w':=⟨h.loc.below hb,h.stk.below hb⟩
structure UP.Own(p:UP)(w:World)(B:Nat):Prop where
 loc:w.ownsRow B 9 1 (.slice p.la p.ln p.lc) p.ln (p.loc.map B0d)
 stk:w.ownsRow B 9 1 (.slice p.sa p.sn p.sc) p.sn (p.stk.map B0d)
theorem UP.Own.mono{p:UP}{w:World}{B B':Nat}(h:p.Own w B)(hB:B'<=B):p.Own w B':=⟨A1y h.loc hB,A1y h.stk hB⟩
theorem UP.Own.keepP{p:UP}{q:Nat->Prop}{w w':World}{B:Nat}(h:p.Own w B)(k:A0j q w w')(hq:∀x,q x->x<B\/w.heap.size<=x):p.Own w' B:=⟨A5d h.loc k hq,A5d h.stk k hq⟩
theorem UP.Own.keptT{p:UP}{w w':World}{B:Nat}{e:TypeId}(h:p.Own w B)(k:A2p e w w')(hne:9≠e):p.Own w' B:=⟨A0k h.loc k hne,A0k h.stk k hne⟩
theorem UP.Own.rd{p:UP}{w:World}{B:Nat}(h:p.Own w B):p.Rd w:=by
 obtain⟨a,c,e,hs,_⟩:=Sl.ofOwn h.loc;obtain⟨a',c',e',hs',_⟩:=Sl.ofOwn h.stk
 cases e
 cases e'
 exact⟨hs,hs'⟩
structure UM where
 st:Bool
 nm:List UInt8
 ds:List UInt8
 sk:Int
 lo:Int
 ca:Option Addr
 cn:Nat
 cc:Nat
 code:List IN
 ta:Option Addr
 tn:Nat
 tc:Nat
 traps:List UT
 ma:Option Addr
 mn:Nat
 mc:Nat
 maps:List UP
def UM.cells(m:UM):List Value:=[.bool m.st,.string ⟨m.nm.toArray⟩,.string ⟨m.ds.toArray⟩,.int .i64 m.sk,.int .i64 m.lo,.slice m.ca m.cn m.cc,.slice m.ta m.tn m.tc,.slice m.ma m.mn m.mc]
theorem UM.cells_length(m:UM):m.cells.length=8:=rfl
def UM.p(m:UM):UM:=⟨m.st,m.nm,m.ds,m.sk,m.lo,none,0,0,m.code,none,0,0,m.traps,none,0,0,m.maps.map UP.p⟩
structure UM.Rd(m:UM)(w:World):Prop where
 code:Ss 7 IN.cells w m.ca m.cn m.code
 traps:Ss 4 UT.cells w m.ta m.tn m.traps
 maps:Ss 3 UP.cells w m.ma m.mn m.maps
 each:∀p∈m.maps,p.Rd w
theorem UM.Rd.below{m:UM}{w w':World}(h:m.Rd w)(hb:Below w.heap.size w w'):m.Rd w':=⟨h.code.below hb,h.traps.below hb,h.maps.below hb,fun p hp=>(h.each p hp).below hb⟩
structure UM.Own(m:UM)(w:World)(B:Nat):Prop where
 code:w.ownsRow B 54 7 (.slice m.ca m.cn m.cc) m.cn (m.code.flatMap IN.cells)
 traps:w.ownsRow B 85 4 (.slice m.ta m.tn m.tc) m.tn (m.traps.flatMap UT.cells)
 maps:w.ownsRow B 88 3 (.slice m.ma m.mn m.mc) m.mn (m.maps.flatMap UP.cells)
 each:∀p∈m.maps,p.Own w B
theorem UM.Own.mono{m:UM}{w:World}{B B':Nat}(h:m.Own w B)(hB:B'<=B):m.Own w B':=⟨A1y h.code hB,A1y h.traps hB,A1y h.maps hB,fun p hp=>(h.each p hp).mono hB⟩
theorem UM.Own.keepP{m:UM}{q:Nat->Prop}{w w':World}{B:Nat}(h:m.Own w B)(k:A0j q w w')(hq:∀x,q x->x<B\/w.heap.size<=x):m.Own w' B:=⟨A5d h.code k hq,A5d h.traps k hq,A5d h.maps k hq,fun p hp=>(h.each p hp).keepP k hq⟩
theorem UM.Own.keptT{m:UM}{w w':World}{B:Nat}{e:TypeId}(h:m.Own w B)(k:A2p e w w')(h1:54≠e)(h2:85≠e)(h3:88≠e)(h4:9≠e):m.Own w' B:=⟨A0k h.code k h1,A0k h.traps k h2,A0k h.maps k h3,fun p hp=>(h.each p hp).keptT k h4⟩
theorem UM.Own.rd{m:UM}{w:World}{B:Nat}(h:m.Own w B):m.Rd w:=by
 obtain⟨a,c,e,hs,_⟩:=Ss.ofOwn IN.cells_length (by decide) h.code;obtain⟨a',c',e',hs',_⟩:=Ss.ofOwn UT.cells_length (by decide) h.traps
 obtain⟨a'',c'',e'',hs'',_⟩:=Ss.ofOwn UP.cells_length (by decide) h.maps
 cases e
 cases e'
 cases e''
 exact⟨hs,hs',hs'',fun p hp=>(h.each p hp).rd⟩
structure UF where
 st:Bool
 nm:List UInt8
 ds:List UInt8
def UF.cells(f:UF):List Value:=[.bool f.st,.string ⟨f.nm.toArray⟩,.string ⟨f.ds.toArray⟩]
theorem UF.cells_length(f:UF):f.cells.length=3:=rfl
structure UU where
 nm:List UInt8
 su:List UInt8
 fa:Option Addr
 fn:Nat
 fc:Nat
 fields:List UF
 ma:Option Addr
 mn:Nat
 mc:Nat
 methods:List UM
def UU.cells(u:UU):List Value:=[.string ⟨u.nm.toArray⟩,.string ⟨u.su.toArray⟩,.slice u.fa u.fn u.fc,.slice u.ma u.mn u.mc]
def UU.p(u:UU):UU:=⟨u.nm,u.su,none,0,0,u.fields,none,0,0,u.methods.map UM.p⟩
structure UU.Rd(u:UU)(w:World):Prop where
 fields:Ss 3 UF.cells w u.fa u.fn u.fields
 methods:Ss 8 UM.cells w u.ma u.mn u.methods
 each:∀m∈u.methods,m.Rd w
theorem UU.Rd.below{u:UU}{w w':World}(h:u.Rd w)(hb:Below w.heap.size w w'):u.Rd w':=⟨h.fields.below hb,h.methods.below hb,fun m hm=>(h.each m hm).below hb⟩
structure UU.Own(u:UU)(w:World)(B:Nat):Prop where
 fields:w.ownsRow B 52 3 (.slice u.fa u.fn u.fc) u.fn (u.fields.flatMap UF.cells)
 methods:w.ownsRow B 59 8 (.slice u.ma u.mn u.mc) u.mn (u.methods.flatMap UM.cells)
 each:∀m∈u.methods,m.Own w B
theorem UU.Own.rd{u:UU}{w:World}{B:Nat}(h:u.Own w B):u.Rd w:=by
 obtain⟨a,c,e,hs,_⟩:=Ss.ofOwn UF.cells_length (by decide) h.fields;obtain⟨a',c',e',hs',_⟩:=Ss.ofOwn UM.cells_length (by decide) h.methods
 cases e
 cases e'
 exact⟨hs,hs',fun p hp=>(h.each p hp).rd⟩
theorem A6d:StE 55 54 (.agg #[.int .u8 0,.int .i64 0,.int .i64 0,.string ⟨#[]⟩,.string ⟨#[]⟩,.string ⟨#[]⟩,.string ⟨#[]⟩]) 7 88:=⟨by kernel_rfl,by kernel_rfl,rfl⟩
theorem D4w:StE 56 85 (.agg #[.int .i64 0,.int .i64 0,.int .i64 0,.string ⟨#[]⟩]) 4 40:=⟨by kernel_rfl,by kernel_rfl,rfl⟩
theorem C5n:StE 57 88 (.agg #[.int .i64 0,.slice none 0 0,.slice none 0 0]) 3 56:=⟨by kernel_rfl,by kernel_rfl,rfl⟩
theorem D4t:StE 30 59 (.agg #[.bool false,.string ⟨#[]⟩,.string ⟨#[]⟩,.int .i64 0,.int .i64 0,.slice none 0 0,.slice none 0 0,.slice none 0 0]) 8 128:=⟨by kernel_rfl,by kernel_rfl,rfl⟩
theorem D6x:StE 29 52 (.agg #[.bool false,.string ⟨#[]⟩,.string ⟨#[]⟩]) 3 40:=⟨by kernel_rfl,by kernel_rfl,rfl⟩
def B5d(K:List KV)(L:List RW)(cn:Nat)(t:KT):UT:=⟨(plV L cn t.fr false:Nat),(plV L cn t.tt true:Nat),(plV L cn t.pl false:Nat),if t.cl=0 then []else(A0s K t.cl).1⟩
def B8s(K:List KV)(L:List RW)(cn:Nat)(t:KT):Bool:=plC L cn t.fr false&&(plC L cn t.tt true&&(plC L cn t.pl false&&(decide (t.cl=0)||aclsB K t.cl false)))
def D5b(K:List KV)(L:List RW)(cn:Nat)(p:KP):UP:=⟨(plV L cn p.pl false:Nat),none,0,0,p.loc.map (A3x K),none,0,0,p.stk.map (A3x K)⟩
def D2f(K:List KV)(L:List RW)(cn:Nat)(p:KP):Bool:=plC L cn p.pl false&&(p.loc.all (B0g K)&&p.stk.all (B0g K))
def B9k(K:List KV)(m:KM):UM:=
 ⟨decide (m.fl=8),A1c K m.nm,A1c K m.ds,m.st,m.lo,none,0,0,(A2h m.code).2.map (B4x K (A2h m.code).2),none,0,0,m.traps.map (B5d K (A2h m.code).2 m.cn),none,0,0,m.maps.map (D5b K (A2h m.code).2 m.cn)⟩
def B9m(K:List KV)(m:KM):Bool:=
 (A5e (A1c K m.nm)&&A3k (A1c K m.ds))&&(decide ((A2h m.code).1=0)&&((A2h m.code).2.all (C0j K)&&(m.traps.all (B8s K (A2h m.code).2 m.cn)&&m.maps.all (D2f K (A2h m.code).2 m.cn))))
abbrev A1d:=59
structure D2j(D W:World)(gk gm gl ga gz g go:Nat)(m:KM)(la:Option Addr)(ln lc:Nat)(L:List RW)(b:Nat)(z:UM):Prop where
 s:D6n W gm gl ga gk g m la ln lc L b
 z:W.heap[gz]? =some (.cells z.cells.toArray A1d (0,0))
 rs:Rs W la ln L
 og:B1t la ln g
 oo:B1t la ln go
 d:m.Rd D
 db:Below D.heap.size D W
 dg:D.heap.size<=g
 dgo:D.heap.size<=go
 ms:gm≠go
 ls:gl≠go
 am:ga≠go
 ks:gk≠go
 zs:gz≠go
 bs:b≠go
 zg:gz≠g
 gg:g<W.heap.size
 gs:go<W.heap.size
 ne:go≠g
abbrev GG(g go:Nat):Nat->Prop:=fun k=>k=g\/k=go
section
variable {D W w:World} {gk gm gl ga gz g go:Nat} {m:KM} {la:Option Addr} {ln lc:Nat} {L:List RW} {b:Nat} {z:UM}
theorem D2j.see(h:D2j D W gk gm gl ga gz g go m la ln lc L b z)(k:A0j (GG g go) W w):D6n w gm gl ga gk g m la ln lc L b:=by
 have key:∀(x:Nat) (o:Obj),W.heap[x]? =some o->x≠g->x≠go->¬GG g go x:=fun x o _ h1 h2 hp=>by
  rcases hp with h3|h3
  ·exact h1 h3
  exact h2 h3
 refine⟨k.row h.s.m (key _ _ h.s.m h.s.nm h.ms),k.row h.s.l (key _ _ h.s.l h.s.nl h.ls),k.row h.s.a (key _ _ h.s.a h.s.na h.am),k.row h.s.k (key _ _ h.s.k h.s.nk h.ks),?_,h.s.len,h.s.nm,h.s.nl,h.s.na,h.s.nk,h.s.nb⟩
 obtain⟨es,clock,hb,_⟩:=h.s.p;exact h.s.p.keep k (key _ _ hb h.s.nb h.bs)
theorem D2j.zw(h:D2j D W gk gm gl ga gz g go m la ln lc L b z)(k:A0j (GG g go) W w):w.heap[gz]? =some (.cells z.cells.toArray A1d (0,0)):=
 k.row h.z (fun hp=>by rcases hp with h3|h3;exact h.zg h3;exact h.zs h3)
theorem D2j.rsw(h:D2j D W gk gm gl ga gz g go m la ln lc L b z)(k:A0j (GG g go) W w):Rs w la ln L:=
 k.ss h.rs (fun hn b off e hp=>by rcases hp with h3|h3;exact h.og hn b off e h3;exact h.oo hn b off e h3)
theorem D2j.rd(h:D2j D W gk gm gl ga gz g go m la ln lc L b z)(k:A0j (GG g go) W w):m.Rd w:=
 h.d.below (k.below h.db nlz (fun x hx=>by rcases hx with rfl|rfl;exact h.dg;exact h.dgo))
end
structure B6q(W w:World)(g go:Nat)(a:Option Addr)(n cap:Nat)(K:List KV)(er:Int)(x:UM):Prop where
 l:LfS w g a n cap K er
 k:A0j (GG g go) W w
 o:w.heap[go]? =some (.cells x.cells.toArray A1d (0,0))
 w:x.Own w W.heap.size
section
variable {W w w9:World} {g go:Nat} {a:Option Addr} {n cap:Nat} {K:List KV} {er er':Int} {x:UM}
theorem B6q.below(h:B6q W w g go a n cap K er x)(hb:Below w.heap.size w w9):B6q W w9 g go a n cap K er x:=
 ⟨h.l.below hb,h.k.trans (A0j.of hb),A0e h.o hb,h.w.keepP (A0j.of (p:=fun _=>False) hb) (fun _ hx=>hx.elim)⟩
theorem B6q.call(h:B6q W w g go a n cap K er x)(hl:LfS w9 g a n cap K er')(hk:A0j (fun k=>k=g) w w9)(hg:g<W.heap.size)(hne:go≠g):B6q W w9 g go a n cap K er' x:=
 ⟨hl,h.k.trans (hk.weak fun _ _ e=> .inl e),hk.row h.o hne,h.w.keepP hk (fun y hy=> .inl (by rw[hy];exact hg))⟩
theorem B6q.new(h:B6q W w g go a n cap K er x)(hl:LfS w9 g a n cap K er')(hk:A0j (fun k=>k=g\/w.heap.size<=k) w w9)(hg:g<W.heap.size)(hne:go≠g):B6q W w9 g go a n cap K er' x:=
 ⟨hl,h.k.trans (hk.weak fun k hk e=>by rcases e with e|e;exact .inl e;have:=h.k.size;omega),hk.row h.o (fun e=>by rcases e with e|e;exact hne e;have:=A0r h.o;omega),h.w.keepP hk (fun y hy=>by rcases hy with hy|hy;exact .inl (by rw[hy];exact hg);exact .inr hy)⟩
theorem B6q.app{e:TypeId}(h0:LfS W g a n cap K er')(h:B6q W w g go a n cap K er x)(hB:A0j (fun k=>W.heap.size<=k) w w9)(ht:A2p e w w9)(hme:A1d≠e)(o:Nat)(v:Value)(x':UM)
  (hc:x'.cells.toArray=x.cells.toArray.setIfInBounds o v) (hgo:go<W.heap.size) (hne:go≠g)
  (hw:x'.Own w9 W.heap.size) (hg0:0<go) (hoff:B1t a n go):B6q W (w9.setCell ⟨go,o,none⟩ v) g go a n cap K er x':=by
 have hl9:LfS w9 g a n cap K er:=h0.newer h.l nlz hB;have hk9:A0j (GG g go) W w9:=h.k.new hB
 have hs:A0j (fun k=>k=go) w9 (w9.setCell ⟨go,o,none⟩ v):=A0j.set (A0j.refl (fun k=>k=go) w9) (.inl rfl) o v;have ho9:=ht.2 _ _ _ _ h.o hme
 refine⟨hl9.keep hs (fun e=>hne e.symm) (fun e=>by omega) (fun hn b off e e2=>hoff hn b off e e2),hk9.trans (hs.weak fun _ _ e=> .inr e),?_,hw.keepP hs (fun y hy=> .inl (by rw[hy];exact hgo))⟩
 have:=A1k ho9 o v;rw[hc];exact this
theorem _root_.Go.Proofs.YtclpkipaehpkdaaGreatDoor.LfS.app9{e:TypeId}{x':UM}(h0:LfS W g a n cap K er')(h:B6q W w g go a n cap K er x)(hB:A0j (fun k=>W.heap.size<=k) w w9)(ht:A2p e w w9)(hw:x'.Own w9 W.heap.size)(hgo:go<W.heap.size)(hne:go≠g)(hg0:0<go)(hoff:B1t a n go)(hme:A1d≠e:=by decide):
  A0j (GG g go) W w9/\w9.heap[go]? =some (.cells x.cells.toArray A1d (0,0))/\∀(o:Nat) (v:Value),x'.cells.toArray=x.cells.toArray.setIfInBounds o v->B6q W (w9.setCell ⟨go,o,none⟩ v) g go a n cap K er x':=
 ⟨h.k.new hB,ht.2 _ _ _ _ h.o hme,fun o v hc=>B6q.app h0 h hB ht hme o v x' hc hgo hne hw hg0 hoff⟩
end
end
end Go.Proofs.YtclpkipaehpkdaaGreatDoor
