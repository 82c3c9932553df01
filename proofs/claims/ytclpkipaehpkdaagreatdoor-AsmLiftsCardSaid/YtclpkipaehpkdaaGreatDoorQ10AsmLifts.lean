/- asm: own texts, merged (wip/merge3.py). No condition. -/
import Derived.Test.YtclpkipaehpkdaaGreatDoorQ09AsmLifts
import Derived.Test.YtclpkipaehpkdaaGreatDoorQ08AsmLifts
import Derived.Maps.OwnSet
set_option linter.unusedVariables false
set_option linter.unusedSimpArgs false
set_option maxRecDepth 100000
set_option maxHeartbeats 64000000
namespace Go.Proofs.YtclpkipaehpkdaaGreatDoor
section
open Go.ChangeShapes Go.WideShapes Go.ChangeAt Go.RowKit
def C7v(L:List KV)(x:IN)(at_ t:Int):IN:={x with cl:=(A1u L at_ t).1,nm:=(A1u L at_ t).2.1,ds:=(A1u L at_ t).2.2.1}
def C0i(p:List UInt8→Bool)(L:List KV)(at_ t:Int):Bool:=(A1u L at_ t).2.2.2&&(classB (A1u L at_ t).1&&(A7v (A1u L at_ t).2.1&&p (A1u L at_ t).2.2.1))
theorem C3a(w:World)(g:Nat)(a:Option Addr)(n cap:Nat)(L:List KV)(er:Int)(gx:Nat)(x:IN)(at_ t:Int)(fis:Nat)(p:List UInt8→Bool)
  (hen:∀(args:Array Value) (W:World),(callFunc fis args).run Tryz.prog W= .ok (.enter fis args) W)
  (hp:∀(W:World) (s:List UInt8),s.length≤65536→VW W→Calls Tryz.prog fis #[.string ⟨s.toArray⟩] W fun e w'=>e= .returned (.bool (p s))∧Below W.heap.size W w') (h:LfI w g a n cap L er gx x):
  Calls Tryz.prog 104 #[.pointer (some ⟨g,0,none⟩),.pointer (some ⟨gx,0,none⟩),.int .i64 at_,.int .i64 t,.func (.func fis) #[] #[]] w (D5g g a n cap L (A2w er (C0i p L at_ t) 8) gx (C7v L x at_ t) w):=by
 have HM:=Lib.hid (C5i w a n cap L at_ t h.k.ks h.k.sm);obtain⟨l1,l2,l3⟩:=A7g h.k.tx at_ t;have H:=Lib.hid h
 have HC:C0i p L at_ t=((A1u L at_ t).2.2.2&&(classB (A1u L at_ t).1&&(A7v (A1u L at_ t).2.1&&p (A1u L at_ t).2.2.1))):=rfl
 have hX:C7v L x at_ t={x with cl:=(A1u L at_ t).1,nm:=(A1u L at_ t).2.1,ds:=(A1u L at_ t).2.2.1}:=rfl;generalize C0i p L at_ t=C at*;generalize C7v L x at_ t=x' at*
 unfold A1t at HM;generalize(A1u L at_ t).1=s1 at*;generalize(A1u L at_ t).2.1=s2 at*;generalize(A1u L at_ t).2.2.1=s3 at*;generalize(A1u L at_ t).2.2.2=b at*
 have HX:=Lib.hid hX;have HI1:=Lib.hid (fun W (hv:VW W)=>A7b W s1 (by omega) hv);have HI2:=Lib.hid (fun W (hv:VW W)=>A5m W s2 l2 hv)
 have HI3:=Lib.hid (fun W (hv:VW W)=>hp W s3 l3 hv);generalize classB s1=x1 at*;generalize A7v s2=x2 at*;generalize p s3=x3 at*;obtain⟨k0,k1,q0,q1,klt⟩:=h.k.k.box;clear h hX hp l1 l2 l3
 go_enter Tryz.func104,Tryz.ntmps104
 go_wp2_with fail
 refine HM.out.mono ?_;rintro e W0 ⟨rfl,hb0⟩;have H0:=Lib.hid (H.out.below hb0);have HK0:=Lib.hid (show A0j (fun k=>k=g∨k=gx) w W0 from A0j.of hb0);clear hb0 k0 k1 q0 q1 klt
 obtain⟨i0,i1,i2,i3,i4,i5,i6,f1,f2,f3,f4,f5,f6⟩:=H0.out.i.box
 go_upto_region 2 with fail
 have hl1:=H0.out.put 3 (.string ⟨s1.toArray⟩) (H0.out.i.set3 s1);have hl2:=hl1.put 4 (.string ⟨s2.toArray⟩) (hl1.i.set4 s2);have hl3:=hl2.put 5 (.string ⟨s3.toArray⟩) (hl2.i.set5 s3)
 have HL:=Lib.hid (show LfI (((W0.setCell ⟨gx,3,none⟩ (.string ⟨s1.toArray⟩)).setCell ⟨gx,4,none⟩ (.string ⟨s2.toArray⟩)).setCell ⟨gx,5,none⟩ (.string ⟨s3.toArray⟩)) g a n cap L er gx x' by rw[HX.out];exact hl3)
 have HK:=Lib.hid (show A0j (fun k=>k=g∨k=gx) w (((W0.setCell ⟨gx,3,none⟩ (.string ⟨s1.toArray⟩)).setCell ⟨gx,4,none⟩ (.string ⟨s2.toArray⟩)).setCell ⟨gx,5,none⟩ (.string ⟨s3.toArray⟩))from((HK0.out.set (.inl (.inr rfl)) 3 _).set (.inl (.inr rfl)) 4 _).set (.inl (.inr rfl)) 5 _)
 clear hl1 hl2 hl3 i0 i1 i2 i3 i4 i5 i6 f1 f2 f3 f4 f5 f6 HK0 H0
 generalize((W0.setCell ⟨gx,3,none⟩ (.string ⟨s1.toArray⟩)).setCell ⟨gx,4,none⟩ (.string ⟨s2.toArray⟩)).setCell ⟨gx,5,none⟩ (.string ⟨s3.toArray⟩)=W2 at*
 have HFIN:=Lib.hid (fun W (hb:Below W2.heap.size W2 W) ok=>(A4u W g a n cap L er ok 8 (HL.out.k.below hb)).mono (R':=fun e W3=>e= .returned (.tuple #[])∧LfI W3 g a n cap L (A2w er ok 8) gx x'∧A0j (fun k=>k=g∨k=gx) w W3) (by
  rintro e W3 ⟨rfl,h3,k3⟩;exact⟨rfl,⟨h3,(HL.out.i.below hb).keep k3 HL.out.ne,HL.out.ne,HL.out.z,HL.out.off⟩,(HK.out.trans (A0j.of hb)).trans (k3.weak (fun k _ e=>Or.inl e))⟩))
 have HBX:=Lib.hid (fun W (hb:Below W2.heap.size W2 W)=>(HL.out.i.below hb).box);have HBR:=Lib.hid (Below.refl W2.heap.size W2)
 have hvs:x'.cl=s1∧x'.nm=s2∧x'.ds=s3:=by rw[HX.out];exact⟨rfl,rfl,rfl⟩
 obtain⟨v1,v2,v3⟩:=hvs
 cases b
 ·have hC:C=false:=HC;subst hC;clear HC
  go_wp2_with fail
  refine(HFIN.out W2 HBR.out false).mono ?_;rintro e W9 ⟨rfl,hl,hk⟩
  go_wp2_with fail
  go_end0;exact⟨rfl,hl,hk⟩
 ·obtain⟨i0,i1,i2,i3,i4,i5,i6,f1,f2,f3,f4,f5,f6⟩:=HBX.out W2 HBR.out;rw[v1]at i3;rw[v2]at i4;rw[v3]at i5
  go_wp2_with fail
  refine(HI1.out W2 (HL.out.k.vw.below HBR.out)).mono ?_;rintro e W3 ⟨rfl,hb⟩;have HB3:=Lib.hid (HBR.out.trans (hb.mono HBR.out.size));clear hb i0 i1 i2 i3 i4 i5 i6 f1 f2 f3 f4 f5 f6
  cases x1
  ·have hC:C=false:=HC;subst hC;clear HC
   go_wp2_with fail
   refine(HFIN.out W3 HB3.out false).mono ?_;rintro e W9 ⟨rfl,hl,hk⟩
   go_wp2_with fail
   go_end0;exact⟨rfl,hl,hk⟩
  ·obtain⟨i0,i1,i2,i3,i4,i5,i6,f1,f2,f3,f4,f5,f6⟩:=HBX.out W3 HB3.out;rw[v1]at i3;rw[v2]at i4;rw[v3]at i5
   go_wp2_with fail
   refine(HI2.out W3 (HL.out.k.vw.below HB3.out)).mono ?_;rintro e W4 ⟨rfl,hb⟩;have HB4:=Lib.hid (HB3.out.trans (hb.mono HB3.out.size));clear hb i0 i1 i2 i3 i4 i5 i6 f1 f2 f3 f4 f5 f6
   cases x2
   ·have hC:C=false:=HC;subst hC;clear HC
    go_wp2_with fail
    refine(HFIN.out W4 HB4.out false).mono ?_;rintro e W9 ⟨rfl,hl,hk⟩
    go_wp2_with fail
    go_end0;exact⟨rfl,hl,hk⟩
   ·obtain⟨i0,i1,i2,i3,i4,i5,i6,f1,f2,f3,f4,f5,f6⟩:=HBX.out W4 HB4.out;rw[v1]at i3;rw[v2]at i4;rw[v3]at i5
    go_wp2_with fail
    refine(HI3.out W4 (HL.out.k.vw.below HB4.out)).mono ?_;rintro e W5 ⟨rfl,hb⟩;have HB5:=Lib.hid (HB4.out.trans (hb.mono HB4.out.size));clear hb i0 i1 i2 i3 i4 i5 i6 f1 f2 f3 f4 f5 f6
    have hC:C=x3:=HC;subst hC;clear HC
    go_wp2_with fail
    refine(HFIN.out W5 HB5.out C).mono ?_;rintro e W9 ⟨rfl,hl,hk⟩
    go_wp2_with fail
    go_end0;exact⟨rfl,hl,hk⟩
end
section
open Go.ChangeShapes Go.WideShapes Go.ChangeAt Go.RowKit Go.Maps
def ixF(p:Int):List RW→Nat→Option Nat→Option Nat
 |[],_,acc=>acc
 |r::L,i,acc=>ixF p L (i+1) (if r.pos=p then some i else acc)
def B5t(L:List RW)(p:Int):Option Nat:=ixF p L 0 none
def plF:List RW→Nat→DataW Unit→DataW Unit
 |[],_,D=>D
 |r::L,i,D=>plF L (i+1) (D.put (.int .i64 r.pos) (.lit (.int .i64 (i:Nat))))
theorem C3z:∀(L:List RW) (r:RW) (i:Nat) (D:DataW Unit),plF (L++[r]) i D=(plF L i D).put (.int .i64 r.pos) (.lit (.int .i64 ((i+L.length:Nat):Int)))
 |[],r,i,D=>by simp[plF]
 |q::L,r,i,D=>by
  rw[List.cons_append,plF,plF,C3z L r (i+1)];rw[show i+1+L.length=i+(q::L).length by simp;omega]
theorem D5i(p:Int)(z:DataW Unit):∀(L:List RW) (i:Nat) (D:DataW Unit) (acc:Option Nat),Maps.IsMap D→D.atKey (.int .i64 p) z=(match acc with|some k=> .lit (.int .i64 (k:Nat))|none=>z)→
  (plF L i D).atKey (.int .i64 p) z=(match ixF p L i acc with|some k=> .lit (.int .i64 (k:Nat))|none=>z)
 |[],i,D,acc,_,h=>h
 |r::L,i,D,acc,hD,h=>by
  rw[plF,ixF];refine D5i p z L (i+1) _ _ (hD.put _ _) ?_;by_cases h2:r.pos=p
  ·rw[if_pos h2,h2,Maps.atKey_put_same hD (by trivial)]
  ·rw[if_neg h2,Maps.atKey_put_other (by intro h;cases h;exact h2 rfl)]
   exact h
def B2y(L:List RW):DataW Unit:=plF L 0 (.map [])
theorem A8b(L:List RW)(p:Int)(z:DataW Unit):(B2y L).atKey (.int .i64 p) z=(match B5t L p with|some k=> .lit (.int .i64 (k:Nat))|none=>z):=
 D5i p z L 0 _ none Maps.isMap_empty rfl
def A8h(w:World)(b:Nat)(L:List RW):Prop:=w.ownsMap Tryz.prog 3 (plainElem (H:=Unit) Tryz.prog 3) b L.length (B2y L)
theorem C9p(w:World):(zeroValue 3).run Tryz.prog w= .ok (.int .i64 0) w:=by kernel_rfl
theorem D7x{w:World}{b:Nat}{L:List RW}(h:A8h w b L)(p:Int)(hp:A3m p):
  (Instr.lookup 115 (.map (some b)) (.int .i64 p) false).run Tryz.prog w= .ok (.int .i64 (((B5t L p).getD 0:Nat):Int)) w:=by
 obtain⟨c,hrun,hat,_⟩:=h.lookup_int (int_keyed Tryz.underlying3) Tryz.underlying115 Tryz.underlying3 (C9p w) (Maps.keyOf_int_mk Tryz.underlying3 hp);rw[A8b]at hat;rw[hrun]
 cases hx:B5t L p with
 |none=>rw[hx]at hat;simp at hat;simp[←hat]
 |some k=>rw[hx]at hat;simp at hat;simp[←hat]
theorem C6k{w:World}{b:Nat}{L:List RW}(h:A8h w b L)(p:Int)(hp:A3m p):
  (Instr.lookup 115 (.map (some b)) (.int .i64 p) true).run Tryz.prog w= .ok (.tuple #[.int .i64 (((B5t L p).getD 0:Nat):Int),.bool (B5t L p).isSome]) w:=by
 obtain⟨v,ps,hrun,hv⟩:=h.look_ok (int_keyed Tryz.underlying3) Tryz.underlying115 (C9p w) (plainElem_int Tryz.underlying3 (a:=0) (by decide)) (Maps.keyOf_int_mk Tryz.underlying3 hp)
 obtain⟨c,rfl,hc,_⟩:=plainElem_int_inv Tryz.underlying3 hv;simp only[Prod.mk.injEq]at hc;have hat:=hc.1;have hn:=A8b L p .nil;rw[A8b]at hat;rw[hrun]
 cases hx:B5t L p with
 |none=>
  rw[hx]at hat hn;simp only at hat hn;rw[Maps.has_false_of_atKey (fun z=>by rw[A8b,hx])];simp at hat;simp[←hat]
 |some k=>
  rw[hx]at hat hn;simp only at hat hn;rw[Maps.has_true_of_atKey (fun z=>by rw[A8b,hx])];simp at hat;simp[←hat]
def E0x(L:List RW)(w:World)(e:Ending)(w':World):Prop:=∃b,e= .returned (.map (some b))∧w.heap.size≤b∧A8h w' b L∧Below w.heap.size w w'
theorem C1s(w:World)(a:Option Addr)(n cap:Nat)(L:List RW)(hs:Rs w a n L)(hn:n≤65536)(hw:∀r∈L,A3m r.pos):Calls Tryz.prog 54 #[.slice a n cap] w (E0x L w):=by
 have HS:=Lib.hid hs;have HLn:=Lib.hid hs.1;have HW:=Lib.hid hw;have hmm:= @run_makeMap Tryz.prog;clear hs hw;go_enter Tryz.func54,Tryz.ntmps54
 go_wp2_with fail
 clear hmm
 go_loopg [9] n (fun gn i wr=>∃j:Nat,j≤n∧gn=n-j∧i= .int .i64 j∧Hid (wr.ownsMap Tryz.prog 3 (plainElem (H:=Unit) Tryz.prog 3) w.heap.size j (B2y (L.take j)))∧Hid (Below w.heap.size w wr))
 case atStart=>exact⟨0,by omega,by omega,by go_num,Lib.hid (World.ownsMap_made _ _ _ _),Lib.hid ((Below.refl _ _).alloc (Nat.le_refl _) _)⟩
 case round=>
  obtain⟨j,hj,rfl,rfl,HM,HB⟩:=hrel;by_cases hlt:j<n
  ·obtain⟨b,off,r,rfl,_,hr,q⟩:=(HS.out.below HB.out).at j hlt;obtain⟨q0,q1,q2,q3⟩:=q;have hrp:=HW.out r (List.mem_of_getElem? hr)
   have HN:=Lib.hid (show B2y (L.take (j+1))=(B2y (L.take j)).put (.int .i64 r.pos) (.lit (.int .i64 (j:Nat))) by
    have hjl:=(List.getElem?_eq_some_iff.1 hr).1;have he:=(List.getElem?_eq_some_iff.1 hr).2;unfold B2y
    rw[List.take_succ_eq_append_getElem hjl,C3z,he,List.length_take,Nat.min_eq_left (by omega),Nat.zero_add])
   have j1:(j:Int)<n:=by omega
   have hjw:(Lit.int .i64 (j:Int)).wf=true:=A1i (by omega);clear hr;obtain⟨p,k,x,y⟩:=r;simp only at q0 q1 q2 q3 hrp HN
   obtain⟨w',hrun,hown,hturn⟩:=(HM.out.alloc (.cells #[.int .i64 p,.int .u8 (k:Nat),.int .i64 x,.int .i64 y] 118)).store (int_keyed Tryz.underlying3) Tryz.underlying115 (by unfold maxLen;omega) (val:= .int .i64 (j:Nat)) (Maps.keyOf_int_mk Tryz.underlying3 hrp) (plainElem_int Tryz.underlying3 hjw)
   have HM2:=Lib.hid hown
   have HB2:=Lib.hid ((HB.out.alloc HB.out.size (.cells #[.int .i64 p,.int .u8 (k:Nat),.int .i64 x,.int .i64 y] 118)).grown hturn.grown (Nat.le_trans HB.out.size (by simp)) (fun m hm=>by cases hm;exact Nat.le_refl _))
   clear hown hturn hrp hjw
   go_wp2_with fail
   go_roundg (n-(j+1))
   case measure=>omega
   case rel=>exact⟨j+1,by omega,rfl,by go_num,Lib.hid (by rw[HN.out];exact HM2.out),HB2⟩
  ·obtain rfl:j=n:=by omega
   have HE:=Lib.hid HM.out;rw[List.take_of_length_le (by rw[HLn.out];exact Nat.le_refl _)]at HE
   go_wp2_with fail
   go_ret;exact⟨_,rfl,Nat.le_refl _,by unfold A8h;rw[HLn.out];exact HE.out,HB.out⟩
end
section
open Go.ChangeShapes Go.WideShapes Go.ChangeAt Go.RowKit
def plV(L:List RW)(cn:Nat)(n:Int)(en:Bool):Nat:=if en=true∧n=cn then L.length else(B5t L n).getD 0
def plC(L:List RW)(cn:Nat)(n:Int)(en:Bool):Bool:=(en&&decide (n=cn))||(B5t L n).isSome
structure D6h(w:World)(gm gl ga gk g:Nat)(m:KM)(la:Option Addr)(ln lc:Nat)(L:List RW)(b:Nat):Prop where
 m:w.heap[gm]? =some (.cells m.cells.toArray 65 (0,0))
 l:w.heap[gl]? =some (.cells #[.slice la ln lc] 112 (0,0))
 a:w.heap[ga]? =some (.cells #[.map (some b)] 115 (0,0))
 k:w.heap[gk]? =some (.cells #[.pointer (some ⟨g,0,none⟩)] 70 (0,0))
 p:A8h w b L
 len:ln=L.length
 nm:gm≠g
 nl:gl≠g
 na:ga≠g
 nk:gk≠g
 nb:b≠g
theorem A8h.keep{w w':World}{b:Nat}{L:List RW}{p:Nat→Prop}(h:A8h w b L)(hk:A0j p w w')(hp:¬p b):A8h w' b L:=by
 have hg:World.grownBy w' w' none:=⟨rfl,rfl,rfl,Nat.le_refl _,fun _ _ _=>rfl⟩;obtain⟨es,clock,hb,F,hn,hD⟩:=h
 exact⟨es,clock,by rw[hk.block b (Array.getElem?_eq_some_iff.1 hb).1 hp];exact hb,F,hn,hD⟩
theorem A9x(w:World)(g:Nat)(a:Option Addr)(n cap:Nat)(K:List KV)(er:Int)(gm gl ga gk:Nat)(m:KM)(la:Option Addr)(ln lc:Nat)(L:List RW)(b:Nat)(p:Int)(en:Bool)(hp:A3m p)(hcn:m.cn≤9223372036854775807)(hln:ln≤65536)
  (h:LfS w g a n cap K er) (hs:D6h w gm gl ga gk g m la ln lc L b):
  Calls Tryz.prog 56 #[.int .i64 p,.bool en,.pointer (some ⟨gm,0,none⟩),.pointer (some ⟨gl,0,none⟩),.pointer (some ⟨ga,0,none⟩),.pointer (some ⟨gk,0,none⟩)] w (D6f (.int .i64 (plV L m.cn p en:Nat)) g a n cap K (A2w er (plC L m.cn p en) 2) w):=by
 have HS:=Lib.hid hs;have HN:=Lib.hid (fun ok=>A4u w g a n cap K er ok 2 h);have H:=Lib.hid h;have m5:w.cell? ⟨gm,5,none⟩=some (.slice m.ca m.cn m.cc):=A0a hs.m 5 rfl
 have l0:w.cell? ⟨gl,0,none⟩=some (.slice la ln lc):=A0a hs.l 0 rfl;have a0:w.cell? ⟨ga,0,none⟩=some (.map (some b)):=A0a hs.a 0 rfl
 have k0:w.cell? ⟨gk,0,none⟩=some (.pointer (some ⟨g,0,none⟩)):=A0a hs.k 0 rfl;have hlk:=C6k hs.p p hp
 have HV:plV L m.cn p en=if en=true∧p=m.cn then L.length else(B5t L p).getD 0:=rfl
 have HC:plC L m.cn p en=((en&&decide (p=m.cn))||(B5t L p).isSome):=rfl;have HLN:=Lib.hid hs.len;generalize plV L m.cn p en=V at*;generalize plC L m.cn p en=C at*
 generalize(B5t L p).getD 0=x at*;generalize(B5t L p).isSome=s at*;generalize m.cn=cn at*;generalize m.ca=ca at*;generalize m.cc=cc at*;clear h hs hp;have c0:(0:Int)≤cn:=by omega
 have c1:(cn:Int)≤9223372036854775807:=by omega
 cases en
 ·have hV:V=x:=by rw[HV,if_neg (by simp)]
  have hC:C=s:=by rw[HC];rfl
  subst hV hC;clear HV HC;go_enter Tryz.func56,Tryz.ntmps56
  go_wp2_with fail
  refine(HN.out C).mono ?_;rintro e W3 ⟨rfl,hl,hk⟩
  go_wp2_with fail
  go_ret;exact⟨rfl,hl,hk⟩
 ·by_cases he:p=cn
  ·have e1:(p==(cn:Int))=true:=by simpa using he
   have hV:V=ln:=by rw[HV,if_pos ⟨rfl,he⟩,HLN.out]
   have hC:C=true:=by rw[HC,decide_eq_true he];rfl
   have hE:A2w er true 2=er:=by unfold A2w;rw[if_neg (fun h=>absurd h.1 (by decide))]
   subst hV hC;rw[hE];clear HV HC he hE;go_enter Tryz.func56,Tryz.ntmps56
   go_wp2_with fail
   go_ret;exact⟨rfl,H.out,A0j.refl _ _⟩
  ·have e1:(p==(cn:Int))=false:=by simpa using he
   have hV:V=x:=by rw[HV,if_neg (fun h=>he h.2)]
   have hC:C=s:=by rw[HC,decide_eq_false he];rfl
   subst hV hC;clear HV HC he;go_enter Tryz.func56,Tryz.ntmps56
   go_wp2_with fail
   refine(HN.out C).mono ?_;rintro e W3 ⟨rfl,hl,hk⟩
   go_wp2_with fail
   go_ret;exact⟨rfl,hl,hk⟩
end
section
open Go.ChangeShapes Go.WideShapes Go.ChangeAt Go.RowKit
open Go.Maps (Keyed int_keyed)
theorem A1q{er k:Int}{ok:Bool}(hk:k≠0):A2w er ok k=0↔er=0∧ok=true:=by
 unfold A2w
 cases ok
 ·by_cases h:er=0
  ·rw[if_pos ⟨rfl,h⟩];simp[hk]
  ·rw[if_neg (fun h'=>h h'.2)];simp[h]
 ·rw[if_neg (fun h'=>absurd h'.1 (by decide))];simp
def LfR(v:Value)(g:Nat)(a:Option Addr)(n cap:Nat)(L:List KV)(er:Int)(C:Bool)(w:World)(e:Ending)(w':World):Prop:=
 e= .returned v∧(∃er',(er'=0↔er=0∧C=true)∧LfS w' g a n cap L er')∧A0j (fun x=>x=g) w w'
theorem A0j.ofB{B:Nat}{w w':World}(h:Below B w w')(hs:w.heap.size≤w'.heap.size):A0j (fun k=>B≤k) w w':=⟨h.os,h.tape,h.output,hs,fun k hk hq=>h.block k (by omega)⟩
theorem LfS.newer{w0 w w':World}{g:Nat}{a:Option Addr}{n cap:Nat}{L:List KV}{er0 er:Int}(h0:LfS w0 g a n cap L er0)(h:LfS w g a n cap L er){B:Nat}(hB:w0.heap.size≤B)(hk:A0j (fun k=>B≤k) w w'):LfS w' g a n cap L er:=by
 have hg:=h0.lt;refine h.keep hk (fun hh=>by omega) (fun hh=>by have:=h.g0;omega) (fun hn b off e hh=> ?_);obtain⟨b',off',e2,hlt,_⟩:=h0.ks.2 hn;rw[e]at e2
 simp only[Option.some.injEq,Addr.mk.injEq]at e2;omega
def A1v(K:List KV)(s:KS):List UInt8:=
 if s.tag=0 then [84]else if s.tag=1 then [73]else if s.tag=4 then [74]else if s.tag=5 then [78]
 else if A2z (A0s K s.a).1 then(A0s K s.a).1 else D1n (A0s K s.a).1
def A5v(K:List KV)(s:KS):Bool:=decide (s.tag≠7)||aclsB K s.a true
def B3p(s:KS):Prop:=s.tag=0∨s.tag=1∨s.tag=4∨s.tag=5∨s.tag=7
def B2q(t:Int):List UInt8:=if t=0 then [84]else if t=1 then [73]else if t=4 then [74]else if t=5 then [78]else []
theorem A0j.new{p:Nat→Prop}{w w1 w2:World}(h:A0j p w w1)(k:A0j (fun x=>w.heap.size≤x) w1 w2):A0j p w w2:=
 ⟨k.os.trans h.os,k.tape.trans h.tape,k.output.trans h.output,Nat.le_trans h.size k.size,fun i hi hg=>by rw[k.block i (Nat.lt_of_lt_of_le hi h.size) (by omega),h.block i hi hg]⟩
theorem A4i{p:Nat→Prop}{w w':World}{B:Nat}{e:TypeId}{size:Nat}{v:Value}{n:Nat}{xs:List Value}(h:w.ownsRow B e size v n xs)(k:A0j p w w')(hp:∀x,p x→x<B∨w.heap.size≤x):w'.ownsRow B e size v n xs:=by
 refine⟨h.1,?_⟩
 rcases h.2 with⟨h1,h2⟩|⟨b,cap,cur,hv,hb,hc,r⟩
 ·exact .inl ⟨h1,h2⟩
 ·refine .inr ⟨b,cap,cur,hv,hb,?_,r⟩;have hlt:=(Array.getElem?_eq_some_iff.1 hc).1;rw[k.block b hlt (fun hpb=>by have:=hp b hpb;omega)];exact hc
theorem A3f(K:List KV)(s:KS)(h:s.tag=0∨s.tag=1∨s.tag=4∨s.tag=5):A1v K s=B2q s.tag∧A5v K s=true:=by
 unfold A1v A5v B2q
 rcases h with h|h|h|h<;>simp[h]
theorem C3s(K:List KV)(sa:Int):A1v K ⟨7,sa⟩=(if A2z (A0s K sa).1 then(A0s K sa).1 else D1n (A0s K sa).1)∧A5v K ⟨7,sa⟩=aclsB K sa true:=by
 unfold A1v A5v;simp
theorem D2t{v:Value}{z:DataW Unit×List MemPlace}(h:plainElem Tryz.prog 9 v=some z):∃s:ByteArray,v= .string s∧z=(.lit (.string s.data.toList),[]):=by
 unfold plainElem at h;rw[Tryz.underlying9]at h
 cases v<;>simp at h
 exact⟨_,rfl,h.2.symm⟩
theorem D5u(w:World):(zeroValue 9).run Tryz.prog w= .ok (.string ⟨#[]⟩) w:=by kernel_rfl
abbrev D8k:=175
theorem E1n(W:World)(b:Nat)(h:W.ownsMap Tryz.prog 3 (plainElem (H:=Unit) Tryz.prog 9) b 0 (.map [])):
  ∃w1 w2 w3 w4,(Instr.mapUpdate D8k (.map (some b)) (.int .i64 0) (.string ⟨#[84]⟩)).run Tryz.prog W= .ok () w1∧(Instr.mapUpdate D8k (.map (some b)) (.int .i64 1) (.string ⟨#[73]⟩)).run Tryz.prog w1= .ok () w2∧
   (Instr.mapUpdate D8k (.map (some b)) (.int .i64 4) (.string ⟨#[74]⟩)).run Tryz.prog w2= .ok () w3∧(Instr.mapUpdate D8k (.map (some b)) (.int .i64 5) (.string ⟨#[78]⟩)).run Tryz.prog w3= .ok () w4∧
   (∀t:Int,(t=0∨t=1∨t=4∨t=5∨t=7)→(Instr.lookup D8k (.map (some b)) (.int .i64 t) false).run Tryz.prog w4= .ok (.string ⟨(B2q t).toArray⟩) w4)∧W.grownBy w4 (some b):=by
 have K:=int_keyed (P:=Tryz.prog) Tryz.underlying3
 have ks:∀(s:ByteArray),s.size≤1→plainElem (H:=Unit) Tryz.prog 9 (.string s)=some (.lit (.string s.data.toList),[]):=fun s hs=>plainElem_string Tryz.underlying9 (by unfold maxLen;omega)
 obtain⟨w1,r1,o1,t1⟩:=h.store K Tryz.underlying175 (by decide) (val:= .string ⟨#[84]⟩) (Maps.keyOf_int_mk Tryz.underlying3 (show(Lit.int .i64 0).wf=true by decide)) (ks _ (by decide))
 obtain⟨w2,r2,o2,t2⟩:=o1.store K Tryz.underlying175 (by decide) (val:= .string ⟨#[73]⟩) (Maps.keyOf_int_mk Tryz.underlying3 (show(Lit.int .i64 1).wf=true by decide)) (ks _ (by decide))
 obtain⟨w3,r3,o3,t3⟩:=o2.store K Tryz.underlying175 (by decide) (val:= .string ⟨#[74]⟩) (Maps.keyOf_int_mk Tryz.underlying3 (show(Lit.int .i64 4).wf=true by decide)) (ks _ (by decide))
 obtain⟨w4,r4,o4,t4⟩:=o3.store K Tryz.underlying175 (by decide) (val:= .string ⟨#[78]⟩) (Maps.keyOf_int_mk Tryz.underlying3 (show(Lit.int .i64 5).wf=true by decide)) (ks _ (by decide))
 refine⟨w1,w2,w3,w4,r1,r2,r3,r4,fun t ht=> ?_,((t1.trans t2).trans (t3.trans t4)).grown⟩
 obtain⟨v,ps,hrun,hv⟩:=o4.lookup K Tryz.underlying175 (D5u w4) (ks ⟨#[]⟩ (by decide)) (Maps.keyOf_int_mk Tryz.underlying3 (show(Lit.int .i64 t).wf=true from A1i (by omega)))
 obtain⟨s,rfl,hs⟩:=D2t hv;rw[hrun];simp only[Prod.mk.injEq]at hs;have h1:=hs.1
 have e:s.data.toList=B2q t:=by
  have key:∀d:DataW Unit,d= .lit (.string s.data.toList)→d= .lit (.string (B2q t))→s.data.toList=B2q t:=fun d e1 e2=>by
   rw[e1]at e2;simpa using e2
  rcases ht with rfl|rfl|rfl|rfl|rfl
  ·exact key _ h1 rfl
  ·exact key _ h1 rfl
  ·exact key _ h1 rfl
  ·exact key _ h1 rfl
  ·exact key _ h1 rfl
 rw[←e,C0t]
theorem B6q(w:World)(g:Nat)(a:Option Addr)(n cap:Nat)(K:List KV)(er:Int)(za:Option Addr)(zn zc:Nat)(l:List KS)(h:LfS w g a n cap K er)(hz:Ss 2 KS.cells w za zn l)(ho:B1e za zn g)(hzn:zn≤1000000)(ht:∀s∈l,B3p s):
  Calls Tryz.prog 57 #[.pointer (some ⟨g,0,none⟩),.slice za zn zc] w fun e w'=>∃oa oc,LfR (.slice oa zn oc) g a n cap K er (l.all (A5v K)) w e w'∧w'.ownsRow w.heap.size 9 1 (.slice oa zn oc) zn ((l.map (A1v K)).map A7h):=by
 have H:=Lib.hid h;have HZ:=Lib.hid hz;have HZn:=Lib.hid hz.1;have HO:=Lib.hid ho;have HTG:=Lib.hid ht;have hmm:= @run_makeMap Tryz.prog;clear h hz ho ht;go_enter Tryz.func57,Tryz.ntmps57
 go_wp2_with fail
 go_loopg [5,11] zn (fun gn ov i wr=>∃(j:Nat) (er':Int) (oa:Option Addr) (oc:Nat),j≤zn∧gn=zn-j∧ov= .slice oa j oc∧i= .int .i64 j∧Hid (LfS wr g a n cap K er')∧Hid (er'=0↔er=0∧(l.take j).all (A5v K)=true)∧Hid (A0j (fun x=>x=g) w wr)∧Hid (wr.ownsRow w.heap.size 9 1 (.slice oa j oc) j (((l.take j).map (A1v K)).map A7h)))
 case atStart=>exact⟨0,er,none,0,by omega,by omega,rfl,by go_num,H,Lib.hid (by simp),Lib.hid (A0j.refl _ _),Lib.hid (World.ownsRow_nil _ _ _ _)⟩
 case round=>
  obtain⟨j,er',oa,oc,hj,rfl,rfl,rfl,HL,HE,HK,HOW⟩:=hrel;by_cases hlt:j<zn
  ·have hz2:=HK.out.ss HZ.out (fun hn b off e=>HO.out hn b off e);obtain⟨b,off,s,rfl,hbl,hs,q⟩:=hz2.getC j hlt;have q0:=q 0 (by omega);have q1:=q 1 (by omega);rw[Nat.add_zero]at q0
   have hj1:(j:Int)<zn:=by omega
   have htg:=HTG.out s (List.mem_of_getElem? hs)
   have HTK:=Lib.hid (show l.take (j+1)=l.take j++[s] by
    have hjl:=(List.getElem?_eq_some_iff.1 hs).1;rw[List.take_succ_eq_append_getElem hjl,(List.getElem?_eq_some_iff.1 hs).2])
   obtain⟨tag,sa⟩:=s;simp only[KS.cells,List.getElem?_cons_zero,List.getElem?_cons_succ]at q0 q1;unfold B3p at htg;simp only at htg;clear hz2 q hs hlt
   have hmade:=World.ownsMap_made (wr.alloc (.cells #[.int .i64 tag,.int .i64 sa] 174)) Tryz.prog 3 (plainElem (H:=Unit) Tryz.prog 9)
   rw[show(wr.alloc (.cells #[.int .i64 tag,.int .i64 sa] 174)).heap.size=wr.heap.size+1 by simp]at hmade;obtain⟨w1,w2,w3,w4,r1,r2,r3,r4,hl,hg4⟩:=E1n _ _ hmade
   have hb4:Below wr.heap.size wr w4:=((Below.refl wr.heap.size wr).alloc (Nat.le_refl _) _).alloc (by simp) _|>.grown hg4 (by simp;omega) (fun m hm=>by cases hm;omega)
   have hs4:w4.heap[wr.heap.size]? =some (.cells #[.int .i64 tag,.int .i64 sa] 174 (0,0)):=by
    rw[hg4.block wr.heap.size (by simp;omega) (by simp),Below.heap_alloc _ _ _ (by simp)];exact heap_alloc_last wr _
   have s0:w4.cell? ⟨wr.heap.size,0,none⟩=some (.int .i64 tag):=A0a hs4 0 rfl;have s1:w4.cell? ⟨wr.heap.size,1,none⟩=some (.int .i64 sa):=A0a hs4 1 rfl
   have HLX:=Lib.hid (HL.out.below hb4);have HKX:=Lib.hid (HK.out.trans (A0j.of hb4));have HOX:=Lib.hid (A1n HOW.out hb4);have hbl2:b<wr.heap.size:=hbl;have j0:j<1000000:=by omega
   clear hmade hg4 hb4 HL HK HOW
   rcases htg with rfl|rfl|rfl|rfl|rfl
   ·have HTX:=Lib.hid (show(l.take (j+1)).map (A1v K)=(l.take j).map (A1v K)++[B2q 0] by rw[HTK.out,List.map_append,List.map_singleton,(A3f K ⟨0,sa⟩ (by simp)).1])
    have HEX:=Lib.hid (show er'=0↔er=0∧(l.take (j+1)).all (A5v K)=true by rw[HTK.out,List.all_append,HE.out];simp[(A3f K ⟨0,sa⟩ (by simp)).2]);have hlk:=hl 0 (by simp);clear hl
    obtain⟨tx,htx⟩:∃tx,tx=B2q 0:=⟨_,rfl⟩;rw[←htx]at hlk HTX;clear htx
    go_wp2_with (at_builtin;refine A1k C4u rfl _ _ rfl w.heap.size _ j _ rfl HOX.out _ 1 _ _ rfl (by simp) rfl rfl (by omega) (by unfold maxLen;omega) HKX.out.size ?_;intro v9 w9 hown9 hg9 hb9;obtain⟨a9,c9,rfl,-,-⟩:=Sl.ofOwn (enc:=A7h) (xs:=((l.take j).map (A1v K))++[tx]) (by rw[List.map_append];exact hown9);have HO9:=Lib.hid (show w9.ownsRow w.heap.size 9 1 (.slice a9 (j+1) c9) (j+1) ((((l.take j).map (A1v K))++[tx]).map A7h) by rw[List.map_append];exact hown9);have hk9:A0j (fun k=>w.heap.size≤k) w4 w9:=A0j.ofB hb9 (Nat.le_trans (by simp) hg9.size);have HK9:=Lib.hid (HKX.out.new hk9);have HL9:=Lib.hid (H.out.newer HLX.out (Nat.le_refl _) hk9);clear hown9 hg9 hb9 hk9)
    go_roundg (zn-(j+1))
    case measure=>omega
    case rel=>exact⟨j+1,_,_,_,by omega,rfl,rfl,by go_num,HL9,HEX,HK9,Lib.hid (by rw[HTX.out];exact HO9.out)⟩
   ·have HTX:=Lib.hid (show(l.take (j+1)).map (A1v K)=(l.take j).map (A1v K)++[B2q 1] by rw[HTK.out,List.map_append,List.map_singleton,(A3f K ⟨1,sa⟩ (by simp)).1])
    have HEX:=Lib.hid (show er'=0↔er=0∧(l.take (j+1)).all (A5v K)=true by rw[HTK.out,List.all_append,HE.out];simp[(A3f K ⟨1,sa⟩ (by simp)).2]);have hlk:=hl 1 (by simp);clear hl
    obtain⟨tx,htx⟩:∃tx,tx=B2q 1:=⟨_,rfl⟩;rw[←htx]at hlk HTX;clear htx
    go_wp2_with (at_builtin;refine A1k C4u rfl _ _ rfl w.heap.size _ j _ rfl HOX.out _ 1 _ _ rfl (by simp) rfl rfl (by omega) (by unfold maxLen;omega) HKX.out.size ?_;intro v9 w9 hown9 hg9 hb9;obtain⟨a9,c9,rfl,-,-⟩:=Sl.ofOwn (enc:=A7h) (xs:=((l.take j).map (A1v K))++[tx]) (by rw[List.map_append];exact hown9);have HO9:=Lib.hid (show w9.ownsRow w.heap.size 9 1 (.slice a9 (j+1) c9) (j+1) ((((l.take j).map (A1v K))++[tx]).map A7h) by rw[List.map_append];exact hown9);have hk9:A0j (fun k=>w.heap.size≤k) w4 w9:=A0j.ofB hb9 (Nat.le_trans (by simp) hg9.size);have HK9:=Lib.hid (HKX.out.new hk9);have HL9:=Lib.hid (H.out.newer HLX.out (Nat.le_refl _) hk9);clear hown9 hg9 hb9 hk9)
    go_roundg (zn-(j+1))
    case measure=>omega
    case rel=>exact⟨j+1,_,_,_,by omega,rfl,rfl,by go_num,HL9,HEX,HK9,Lib.hid (by rw[HTX.out];exact HO9.out)⟩
   ·have HTX:=Lib.hid (show(l.take (j+1)).map (A1v K)=(l.take j).map (A1v K)++[B2q 4] by rw[HTK.out,List.map_append,List.map_singleton,(A3f K ⟨4,sa⟩ (by simp)).1])
    have HEX:=Lib.hid (show er'=0↔er=0∧(l.take (j+1)).all (A5v K)=true by rw[HTK.out,List.all_append,HE.out];simp[(A3f K ⟨4,sa⟩ (by simp)).2]);have hlk:=hl 4 (by simp);clear hl
    obtain⟨tx,htx⟩:∃tx,tx=B2q 4:=⟨_,rfl⟩;rw[←htx]at hlk HTX;clear htx
    go_wp2_with (at_builtin;refine A1k C4u rfl _ _ rfl w.heap.size _ j _ rfl HOX.out _ 1 _ _ rfl (by simp) rfl rfl (by omega) (by unfold maxLen;omega) HKX.out.size ?_;intro v9 w9 hown9 hg9 hb9;obtain⟨a9,c9,rfl,-,-⟩:=Sl.ofOwn (enc:=A7h) (xs:=((l.take j).map (A1v K))++[tx]) (by rw[List.map_append];exact hown9);have HO9:=Lib.hid (show w9.ownsRow w.heap.size 9 1 (.slice a9 (j+1) c9) (j+1) ((((l.take j).map (A1v K))++[tx]).map A7h) by rw[List.map_append];exact hown9);have hk9:A0j (fun k=>w.heap.size≤k) w4 w9:=A0j.ofB hb9 (Nat.le_trans (by simp) hg9.size);have HK9:=Lib.hid (HKX.out.new hk9);have HL9:=Lib.hid (H.out.newer HLX.out (Nat.le_refl _) hk9);clear hown9 hg9 hb9 hk9)
    go_roundg (zn-(j+1))
    case measure=>omega
    case rel=>exact⟨j+1,_,_,_,by omega,rfl,rfl,by go_num,HL9,HEX,HK9,Lib.hid (by rw[HTX.out];exact HO9.out)⟩
   ·have HTX:=Lib.hid (show(l.take (j+1)).map (A1v K)=(l.take j).map (A1v K)++[B2q 5] by rw[HTK.out,List.map_append,List.map_singleton,(A3f K ⟨5,sa⟩ (by simp)).1])
    have HEX:=Lib.hid (show er'=0↔er=0∧(l.take (j+1)).all (A5v K)=true by rw[HTK.out,List.all_append,HE.out];simp[(A3f K ⟨5,sa⟩ (by simp)).2]);have hlk:=hl 5 (by simp);clear hl
    obtain⟨tx,htx⟩:∃tx,tx=B2q 5:=⟨_,rfl⟩;rw[←htx]at hlk HTX;clear htx
    go_wp2_with (at_builtin;refine A1k C4u rfl _ _ rfl w.heap.size _ j _ rfl HOX.out _ 1 _ _ rfl (by simp) rfl rfl (by omega) (by unfold maxLen;omega) HKX.out.size ?_;intro v9 w9 hown9 hg9 hb9;obtain⟨a9,c9,rfl,-,-⟩:=Sl.ofOwn (enc:=A7h) (xs:=((l.take j).map (A1v K))++[tx]) (by rw[List.map_append];exact hown9);have HO9:=Lib.hid (show w9.ownsRow w.heap.size 9 1 (.slice a9 (j+1) c9) (j+1) ((((l.take j).map (A1v K))++[tx]).map A7h) by rw[List.map_append];exact hown9);have hk9:A0j (fun k=>w.heap.size≤k) w4 w9:=A0j.ofB hb9 (Nat.le_trans (by simp) hg9.size);have HK9:=Lib.hid (HKX.out.new hk9);have HL9:=Lib.hid (H.out.newer HLX.out (Nat.le_refl _) hk9);clear hown9 hg9 hb9 hk9)
    go_roundg (zn-(j+1))
    case measure=>omega
    case rel=>exact⟨j+1,_,_,_,by omega,rfl,rfl,by go_num,HL9,HEX,HK9,Lib.hid (by rw[HTX.out];exact HO9.out)⟩
   ·have hlk:=hl 7 (by simp);rw[show B2q 7=[]from rfl]at hlk;clear hl;have HCL:=Lib.hid (A8d w4 g a n cap K er' sa true HLX.out);have hsl:=A2t HLX.out.tx sa
    have hTO:=C3s K sa;have HIA:=Lib.hid (fun W (hv:VW W)=>A8r W (A0s K sa).1 hsl hv);have HOB:=Lib.hid (fun W=>C6y W (A0s K sa).1 hsl)
    obtain⟨ib,hib⟩:∃ib,ib=A2z (A0s K sa).1:=⟨_,rfl⟩;rw[←hib]at hTO HIA;have HS4:=Lib.hid hs4;generalize(A0s K sa).1=c at*
    go_wp2_with fail
    refine HCL.out.mono ?_;rintro e w5 ⟨rfl,h5,k5⟩;have HL5:=Lib.hid h5;have HK5:=Lib.hid (HKX.out.trans k5);have HO5:=Lib.hid (A4i HOX.out k5 (fun x hx=> .inl (by have:=H.out.lt;omega)))
    clear h5 k5 HCL
    go_wp2_with fail
    refine(HIA.out w5 HL5.out.vw).mono ?_;rintro e w6 ⟨rfl,hb6⟩;have HLX:=Lib.hid (HL5.out.below hb6);have HKX:=Lib.hid (HK5.out.trans (A0j.of hb6));have HOX:=Lib.hid (A1n HO5.out hb6)
    have HEX:=Lib.hid (show A2w er' (aclsB K sa true) 8=0↔er=0∧(l.take (j+1)).all (A5v K)=true by
     rw[HTK.out,List.all_append,A1q (by decide),HE.out];simp[hTO.2,and_assoc])
    clear hb6 HIA
    cases ib
    ·have HTX:=Lib.hid (show(l.take (j+1)).map (A1v K)=(l.take j).map (A1v K)++[D1n c] by rw[HTK.out,List.map_append,List.map_singleton,hTO.1];simp);have HOB6:=Lib.hid (HOB.out w6)
     generalize D1n c=tx at*;clear hTO hib HOB
     go_wp2_with fail
     refine HOB6.out.mono ?_;rintro e w7 ⟨rfl,hw7⟩;subst hw7
     go_wp2_with (at_builtin;refine A1k C4u rfl _ _ rfl w.heap.size _ j _ rfl HOX.out _ 1 _ _ rfl (by simp) rfl rfl (by omega) (by unfold maxLen;omega) HKX.out.size ?_;intro v9 w9 hown9 hg9 hb9;obtain⟨a9,c9,rfl,-,-⟩:=Sl.ofOwn (enc:=A7h) (xs:=((l.take j).map (A1v K))++[tx]) (by rw[List.map_append];exact hown9);have HO9:=Lib.hid (show w9.ownsRow w.heap.size 9 1 (.slice a9 (j+1) c9) (j+1) ((((l.take j).map (A1v K))++[tx]).map A7h) by rw[List.map_append];exact hown9);have hk9:A0j (fun k=>w.heap.size≤k) w7 w9:=A0j.ofB hb9 (Nat.le_trans (by simp) hg9.size);have HK9:=Lib.hid (HKX.out.new hk9);have HL9:=Lib.hid (H.out.newer HLX.out (Nat.le_refl _) hk9);clear hown9 hg9 hb9 hk9)
     go_roundg (zn-(j+1))
     case measure=>omega
     case rel=>exact⟨j+1,_,_,_,by omega,rfl,rfl,by go_num,HL9,HEX,HK9,Lib.hid (by rw[HTX.out];exact HO9.out)⟩
    ·have HTX:=Lib.hid (show(l.take (j+1)).map (A1v K)=(l.take j).map (A1v K)++[c] by rw[HTK.out,List.map_append,List.map_singleton,hTO.1];simp)
     obtain⟨tx,htx⟩:∃tx,tx=c:=⟨_,rfl⟩;subst htx;clear hTO hib HOB
     go_wp2_with (at_builtin;refine A1k C4u rfl _ _ rfl w.heap.size _ j _ rfl HOX.out _ 1 _ _ rfl (by simp) rfl rfl (by omega) (by unfold maxLen;omega) HKX.out.size ?_;intro v9 w9 hown9 hg9 hb9;obtain⟨a9,c9,rfl,-,-⟩:=Sl.ofOwn (enc:=A7h) (xs:=((l.take j).map (A1v K))++[tx]) (by rw[List.map_append];exact hown9);have HO9:=Lib.hid (show w9.ownsRow w.heap.size 9 1 (.slice a9 (j+1) c9) (j+1) ((((l.take j).map (A1v K))++[tx]).map A7h) by rw[List.map_append];exact hown9);have hk9:A0j (fun k=>w.heap.size≤k) w6 w9:=A0j.ofB hb9 (Nat.le_trans (by simp) hg9.size);have HK9:=Lib.hid (HKX.out.new hk9);have HL9:=Lib.hid (H.out.newer HLX.out (Nat.le_refl _) hk9);clear hown9 hg9 hb9 hk9)
     go_roundg (zn-(j+1))
     case measure=>omega
     case rel=>exact⟨j+1,_,_,_,by omega,rfl,rfl,by go_num,HL9,HEX,HK9,Lib.hid (by rw[HTX.out];exact HO9.out)⟩
  ·obtain rfl:j=zn:=by omega
   have hfull:l.take j=l:=List.take_of_length_le (by rw[HZn.out];exact Nat.le_refl _);rw[hfull]at HE HOW;clear hmm hlt
   go_wp2_with fail
   go_ret;exact⟨_,_,⟨rfl,⟨er',HE.out,HL.out⟩,HK.out⟩,HOW.out⟩
end
end Go.Proofs.YtclpkipaehpkdaaGreatDoor
