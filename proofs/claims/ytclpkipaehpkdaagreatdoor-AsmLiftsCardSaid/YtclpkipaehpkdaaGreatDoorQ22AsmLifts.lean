/- asm: own texts, merged (wip/merge3.py). No condition. -/
import Derived.Test.YtclpkipaehpkdaaGreatDoorQ21AsmLifts
import Derived.Test.YtclpkipaehpkdaaGreatDoorQ01AsmLifts
set_option linter.unusedVariables false
set_option linter.unusedSimpArgs false
set_option maxRecDepth 100000
set_option maxHeartbeats 64000000
namespace Go.Proofs.YtclpkipaehpkdaaGreatDoor
section
open Go.ChangeShapes Go.WideShapes Go.ChangeAt Go.RowKit
structure NmS(w wx:World)(a:Option Addr)(n:Nat)(K:List KV)(r:RW)(x:IN):Prop where
 r:wx.heap[w.heap.size]? =some (.cells r.cells.toArray 118 (0,0))
 x:A3w (w.heap.size+1) x wx
 z:A3w (w.heap.size+2) ⟨0,0,0,[],[],[],[]⟩ wx
 k:Ks wx a n K
 b:Below w.heap.size w wx
theorem NmS.below{w wx w9:World}{a:Option Addr}{n:Nat}{K:List KV}{r:RW}{x:IN}(h:NmS w wx a n K r x)(hb:Below wx.heap.size wx w9):NmS w w9 a n K r x:=
 ⟨A0c h.r hb,h.x.below hb,h.z.below hb,h.k.below hb,h.b.trans (hb.mono h.b.size)⟩
theorem NmS.put{w wx:World}{a:Option Addr}{n:Nat}{K:List KV}{r:RW}{x x':IN}(h:NmS w wx a n K r x)(hK:Ks w a n K)(o:Nat)(v:Value)(hi:A3w (w.heap.size+1) x' (wx.setCell ⟨w.heap.size+1,o,none⟩ v)):NmS w (wx.setCell ⟨w.heap.size+1,o,none⟩ v) a n K r x':=by
 have hb:Below w.heap.size w (wx.setCell ⟨w.heap.size+1,o,none⟩ v):=h.b.setCell (show w.heap.size≤w.heap.size+1 by omega) v
 exact⟨A1c h.r (by omega) o v,hi,A1c h.z (by omega) o v,hK.below hb,hb⟩
theorem NmS.done{w wx:World}{a:Option Addr}{n:Nat}{K:List KV}{r:RW}{x:IN}(h:NmS w wx a n K r x)(cs:Array Value):Below w.heap.size w (wx.setRow (w.heap.size+2) cs):=
 (A0j.setrow (A0j.refl (fun k=>k=w.heap.size+2) wx) (.inl rfl) cs).below h.b (Nat.le_refl _) (fun k hk=>by omega)
def D6z(K:List KV)(r:RW):IN:=
 if r.op=20 then B0n K (A3y r) r.a.toNat else if A7f r.op then C7v K (A3y r) r.a 9 else if B0k r.op then C7v K (A3y r) r.a 10 else{A3y r with cl:=(A0s K r.a).1}
def D2z(K:List KV)(r:RW):Bool:=
 if r.op=20 then B1d (B0n K (A3y r) r.a.toNat)else if A7f r.op then C0i typeB K r.a 9 else if B0k r.op then C0i A3x K r.a 10 else aclsB K r.a (decide (r.op≠187))
def C9c(V:IN)(C:Bool)(w:World)(e:Ending)(w':World):Prop:=∃(x:IN) (ok:Bool),e= .returned (.tuple #[.agg x.cells.toArray,.bool ok])∧ok=C∧(ok=true→x=V)∧Below w.heap.size w w'
theorem E0e{K:List KV}{r:RW}(h20:r.op=20)(h5:(kAt K r.a.toNat).tag=5):B0n K (A3y r) r.a.toNat={A3y r with ds:=[74],n:=(kAt K r.a.toNat).n}∧B1d (B0n K (A3y r) r.a.toNat)=true:=by
 have e:B0n K (A3y r) r.a.toNat={A3y r with ds:=[74],n:=(kAt K r.a.toNat).n}:=by
  unfold B0n;rw[if_neg (by omega),if_pos h5]
 refine⟨e,?_⟩;rw[e];simp[B1d,A3y,h20]
theorem C8p{K:List KV}{r:RW}(h20:r.op=20)(h5:(kAt K r.a.toNat).tag≠5):B1d (B0n K (A3y r) r.a.toNat)=false:=by
 unfold B0n;split
 ·simp[B1d,A3y,h20]
 ·split
  ·simp[B1d,A3y,h20]
  ·simp[B1d,A3y]
def QN(s b o:Nat)(r:RW)(v:Int)(w:World):Prop:=w.heap[s]? =some (.cells r.cells.toArray 118 (0,0))∧w.cell? ⟨b,o,none⟩=some (.int .i64 v)
def SX(w:World)(r:RW)(x:IN)(y:World):Prop:=y.heap[w.heap.size]? =some (.cells r.cells.toArray 118 (0,0))∧A3w (w.heap.size+1) x y
theorem SX.below{w y y':World}{r:RW}{x:IN}(h:SX w r x y)(hb:Below y.heap.size y y'):SX w r x y':=⟨A0c h.1 hb,h.2.below hb⟩
theorem SX.setrow{w y:World}{r:RW}{x:IN}(h:SX w r x y)(cs:Array Value):SX w r x (y.setRow (w.heap.size+2) cs):=
 ⟨by rw[setRow_other _ _ _ _ (by omega)];exact h.1,by unfold A3w;rw[setRow_other _ _ _ _ (by omega)];exact h.2⟩
theorem C7e(w:World)(a:Option Addr)(n cap:Nat)(K:List KV)(r:RW)(hs:Ks w a n K)(hn:n≤65536)(htx:∀i:Int,(kAt K i).s.length≤65536)(hop:r.op<256)(hra:0≤r.a∧r.a<1048576):
  Calls Tryz.prog 117 #[.slice a n cap,.agg #[.int .i64 r.pos,.int .u8 (r.op:Nat),.int .i64 r.a,.int .i64 r.b],.agg #[.int .u8 (r.op:Nat),.int .i64 0,.int .i64 0,.string ⟨#[]⟩,.string ⟨#[]⟩,.string ⟨#[]⟩,.string ⟨#[]⟩]] w (C9c (D6z K r) (D2z K r) w):=by
 have HKS:=Lib.hid hs;have HNN:=Lib.hid hn;have HTX:=Lib.hid htx
 have hb0:Below w.heap.size w (((w.alloc (.cells #[.int .i64 r.pos,.int .u8 (r.op:Nat),.int .i64 r.a,.int .i64 r.b] 118)).alloc (.cells #[.int .u8 (r.op:Nat),.int .i64 0,.int .i64 0,.string ⟨#[]⟩,.string ⟨#[]⟩,.string ⟨#[]⟩,.string ⟨#[]⟩] A1f)).alloc (.cells #[.int .u8 0,.int .i64 0,.int .i64 0,.string ⟨#[]⟩,.string ⟨#[]⟩,.string ⟨#[]⟩,.string ⟨#[]⟩] A1f)):=(((Below.refl w.heap.size w).alloc (Nat.le_refl _) _).alloc (by simp) _).alloc (by simp;omega) _
 have HS0:=Lib.hid (show NmS w (((w.alloc (.cells #[.int .i64 r.pos,.int .u8 (r.op:Nat),.int .i64 r.a,.int .i64 r.b] 118)).alloc (.cells #[.int .u8 (r.op:Nat),.int .i64 0,.int .i64 0,.string ⟨#[]⟩,.string ⟨#[]⟩,.string ⟨#[]⟩,.string ⟨#[]⟩] A1f)).alloc (.cells #[.int .u8 0,.int .i64 0,.int .i64 0,.string ⟨#[]⟩,.string ⟨#[]⟩,.string ⟨#[]⟩,.string ⟨#[]⟩] A1f)) a n K r (A3y r)from⟨by
  rw[Below.heap_alloc _ _ _ (by simp;omega),Below.heap_alloc _ _ _ (by simp)];exact heap_alloc_last w _,by
  unfold A3w;rw[Below.heap_alloc _ _ _ (by simp)]
  have h:=heap_alloc_last (w.alloc (.cells #[.int .i64 r.pos,.int .u8 (r.op:Nat),.int .i64 r.a,.int .i64 r.b] 118)) (.cells #[.int .u8 (r.op:Nat),.int .i64 0,.int .i64 0,.string ⟨#[]⟩,.string ⟨#[]⟩,.string ⟨#[]⟩,.string ⟨#[]⟩] A1f)
  have h2:((w.alloc (.cells #[.int .i64 r.pos,.int .u8 (r.op:Nat),.int .i64 r.a,.int .i64 r.b] 118)).alloc (.cells #[.int .u8 (r.op:Nat),.int .i64 0,.int .i64 0,.string ⟨#[]⟩,.string ⟨#[]⟩,.string ⟨#[]⟩,.string ⟨#[]⟩] A1f)).heap[w.heap.size+1]? =some (.cells #[.int .u8 (r.op:Nat),.int .i64 0,.int .i64 0,.string ⟨#[]⟩,.string ⟨#[]⟩,.string ⟨#[]⟩,.string ⟨#[]⟩] A1f):=by simpa using h
  exact h2,by
  have h:=heap_alloc_last ((w.alloc (.cells #[.int .i64 r.pos,.int .u8 (r.op:Nat),.int .i64 r.a,.int .i64 r.b] 118)).alloc (.cells #[.int .u8 (r.op:Nat),.int .i64 0,.int .i64 0,.string ⟨#[]⟩,.string ⟨#[]⟩,.string ⟨#[]⟩,.string ⟨#[]⟩] A1f)) (.cells #[.int .u8 0,.int .i64 0,.int .i64 0,.string ⟨#[]⟩,.string ⟨#[]⟩,.string ⟨#[]⟩,.string ⟨#[]⟩] A1f)
  have h2:(((w.alloc (.cells #[.int .i64 r.pos,.int .u8 (r.op:Nat),.int .i64 r.a,.int .i64 r.b] 118)).alloc (.cells #[.int .u8 (r.op:Nat),.int .i64 0,.int .i64 0,.string ⟨#[]⟩,.string ⟨#[]⟩,.string ⟨#[]⟩,.string ⟨#[]⟩] A1f)).alloc (.cells #[.int .u8 0,.int .i64 0,.int .i64 0,.string ⟨#[]⟩,.string ⟨#[]⟩,.string ⟨#[]⟩,.string ⟨#[]⟩] A1f)).heap[w.heap.size+2]? =some (.cells #[.int .u8 0,.int .i64 0,.int .i64 0,.string ⟨#[]⟩,.string ⟨#[]⟩,.string ⟨#[]⟩,.string ⟨#[]⟩] A1f):=by simpa using h
  exact h2,hs.below hb0,hb0⟩)
 obtain⟨V,hV⟩:∃V,V=D6z K r:=⟨_,rfl⟩;obtain⟨C,hC⟩:∃C,C=D2z K r:=⟨_,rfl⟩;rw[←hV,←hC];have HV:=Lib.hid hV;have HC:=Lib.hid hC;obtain⟨ra0,ra1⟩:=hra;clear hs hn htx hb0 hV hC
 go_enter Tryz.func117,Tryz.ntmps117
 go_upto_region 2 with fail
 generalize(((w.alloc (.cells #[.int .i64 r.pos,.int .u8 (r.op:Nat),.int .i64 r.a,.int .i64 r.b] 118)).alloc (.cells #[.int .u8 (r.op:Nat),.int .i64 0,.int .i64 0,.string ⟨#[]⟩,.string ⟨#[]⟩,.string ⟨#[]⟩,.string ⟨#[]⟩] A1f)).alloc (.cells #[.int .u8 0,.int .i64 0,.int .i64 0,.string ⟨#[]⟩,.string ⟨#[]⟩,.string ⟨#[]⟩,.string ⟨#[]⟩] A1f))=W at*
 obtain⟨i0,i1,i2,i3,i4,i5,i6,f1,f2,f3,f4,f5,f6⟩:=HS0.out.x.box;have r1:=A0a HS0.out.r 1 rfl;have r2:=A0a HS0.out.r 2 rfl;dsimp only[RW.cells,A3y]at r1 r2 i0 i1 i2 i3 i4 i5 i6
 by_cases o20:r.op=20
 ·have e20:((r.op:Int)==20)=true:=by rw[o20];rfl
  have HO:=Lib.hid o20;by_cases hlt:r.a<n
  ·obtain⟨b,off,rfl,hbl,k0,k1,k2,k3,k4⟩:=HS0.out.k.at r.a.toNat (by omega);obtain⟨c,hc⟩:∃c,c=kAt K r.a.toNat:=⟨_,rfl⟩;rw[←hc]at k0 k1 k2 k3 k4;have HCQ:=Lib.hid hc
   by_cases h5:c.tag=5
   ·obtain⟨v1,v2⟩:=E0e o20 (show(kAt K r.a.toNat).tag=5 by rw[←hc];exact h5);have e5:(c.tag==5)=true:=by rw[h5];rfl
    have HVV:=Lib.hid (show V={A3y r with ds:=[74],n:=(kAt K r.a.toNat).n} by rw[HV.out];unfold D6z;rw[if_pos o20];exact v1)
    have HCC:=Lib.hid (show C=true by rw[HC.out];unfold D2z;rw[if_pos o20];exact v2);have HH5:=Lib.hid h5;rw[←hc]at HVV;clear hc;have hlz:decide (r.a<(n:Int))=true:=by simp;omega
    clear o20 h5 v1 v2 HV HC
    go_upto_region 5 with fail
    have HSD:=Lib.hid (HS0.out.below ((Below.refl _ _).drew));have hSw:QN w.heap.size b (off+r.a.toNat*5+3) r c.n W.drew:=⟨HSD.out.r,k3⟩
    have l0:∀z,QN w.heap.size b (off+r.a.toNat*5+3) r c.n z→z.cell? ⟨w.heap.size,2,none⟩=some (.int .i64 r.a):=fun z h=>A0a h.1 2 rfl
    have l1:∀z,QN w.heap.size b (off+r.a.toNat*5+3) r c.n z→z.cell? ⟨b,off+r.a.toNat*5+3,none⟩=some (.int .i64 c.n):=fun z h=>h.2
    refine A0g (QN w.heap.size b (off+r.a.toNat*5+3) r c.n) (.of [(0,true),(1,true),(2,true),(3,true),(4,true),(5,true),(6,true),(7,false),(8,true),(9,false)] (.stir [])) (by kernel_rfl) (by kernel_rfl) (fun c a d v w h=>by cases d<;>exact h) ?_
    generalize W.drew=W1 at*
    iterate 7
     refine A0b fun K hK=>tkF ?_
     go_simp
     try go_bits
     refine hK _ _ ?_;clear hK K
    obtain⟨i0,i1,i2,i3,i4,i5,i6,f1,f2,f3,f4,f5,f6⟩:=HSD.out.x.box;refine A0b fun K hK=>alF ?_
    go_step;have HS1:=Lib.hid (HSD.out.put HKS.out 5 _ (HSD.out.x.set5 [74]))
    have hk1:A0j (fun k=>k=w.heap.size+1) W1 (W1.setCell ⟨w.heap.size+1,5,none⟩ (.string ⟨#[74]⟩)):=A0j.set (A0j.refl (fun k=>k=w.heap.size+1) W1) (.inl rfl) 5 _
    have hSn:QN w.heap.size b (off+r.a.toNat*5+3) r c.n (W1.setCell ⟨w.heap.size+1,5,none⟩ (.string ⟨#[74]⟩)):=⟨HS1.out.r,by
     obtain⟨b2,off2,e,_,_,_,_,q3,_⟩:=HS1.out.k.at r.a.toNat (by omega)
     cases e
     rw[←HCQ.out]at q3;exact q3⟩
    refine⟨hSn,hK _ _ ?_⟩;clear hK K hSw i0 i1 i2 i3 i4 i5 i6 f1 f2 f3 f4 f5 f6 hk1;have hSw:=hSn;clear hSn
    iterate 1
     refine A0b fun K hK=>tkF ?_
     go_simp
     try go_bits
     refine hK _ _ ?_;clear hK K
    obtain⟨i0,i1,i2,i3,i4,i5,i6,f1,f2,f3,f4,f5,f6⟩:=HS1.out.x.box;dsimp only[A3y]at i0 i1 i2 i3 i4 i5 i6;refine A0b fun K hK=>alF ?_
    go_step;have HS2:=Lib.hid (HS1.out.put HKS.out 1 _ (HS1.out.x.set1 c.n))
    have hSn:QN w.heap.size b (off+r.a.toNat*5+3) r c.n ((W1.setCell ⟨w.heap.size+1,5,none⟩ (.string ⟨#[74]⟩)).setCell ⟨w.heap.size+1,1,none⟩ (.int .i64 c.n)):=⟨HS2.out.r,by
     obtain⟨b2,off2,e,_,_,_,_,q3,_⟩:=HS2.out.k.at r.a.toNat (by omega)
     cases e
     rw[←HCQ.out]at q3;exact q3⟩
    refine⟨hSn,hK _ _ ?_⟩;clear hK K hSw i0 i1 i2 i3 i4 i5 i6 f1 f2 f3 f4 f5 f6
    generalize(W1.setCell ⟨w.heap.size+1,5,none⟩ (.string ⟨#[74]⟩)).setCell ⟨w.heap.size+1,1,none⟩ (.int .i64 c.n)=W2 at*;refine A0m (fun y=>y=W2) (fun y hy=>hy▸hSn) rfl ?_
    refine A0p (fun y hy=> ?_);obtain rfl:W2=y:=Eq.symm hy;clear hSn l0 l1
    go_upto_region 6 with fail
    refine wp_region_lit ?_;refine A0h rfl _ _ rfl _ rfl _ _ _ _ HS2.out.x Tryz.underlying54 rfl A0n ?_
    refine wpList_store_row rfl _ _ _ rfl _ _ rfl rfl _ _ HS2.out.z A0n rfl (A9a _) ?_
    go_wp2_with fail
    refine bodyPost_ret (A0d rfl _ _ (w.heap.size+2) A1f (IN.cells _).toArray (0,0) _ rfl (setRow_heap _ _ _ _ _ _ HS2.out.z) Tryz.underlying54 rfl A0n) rfl ?_
    exact⟨_,_,rfl,HCC.out.symm,fun _=>HVV.out.symm,HS2.out.done _⟩
   ·have v2:=C8p o20 (show(kAt K r.a.toNat).tag≠5 by rw[←hc];exact h5);have e5:(c.tag==5)=false:=by rw[beq_eq_false_iff_ne];exact h5
    have HCC:=Lib.hid (show C=false by rw[HC.out];unfold D2z;rw[if_pos o20];exact v2);have hlz:decide (r.a<(n:Int))=true:=by simp;omega
    clear hc o20 h5 v2 HV HC
    go_upto_region 7 with fail
    refine wp_region_lit ?_;refine A0h rfl _ _ rfl _ rfl _ _ _ _ HS0.out.x Tryz.underlying54 rfl A0n ?_
    refine wpList_store_row rfl _ _ _ rfl _ _ rfl rfl _ _ HS0.out.z A0n rfl (A9a _) ?_
    go_wp2_with fail
    refine bodyPost_ret (A0d rfl _ _ (w.heap.size+2) A1f (IN.cells _).toArray (0,0) _ rfl (setRow_heap _ _ _ _ _ _ HS0.out.z) Tryz.underlying54 rfl A0n) rfl ?_
    exact⟨_,_,rfl,HCC.out.symm,(fun h=>absurd h (by decide)),HS0.out.done _⟩
  ·have h5:(kAt K r.a.toNat).tag≠5:=by
    unfold kAt;have hl:=HKS.out.1;rw[List.getD_eq_getElem?_getD,List.getElem?_eq_none (by omega)];simp[kz]
   have v2:=C8p o20 h5;have HCC:=Lib.hid (show C=false by rw[HC.out];unfold D2z;rw[if_pos o20];exact v2);have hlz:decide (r.a<(n:Int))=false:=by simp;omega
   clear o20 h5 v2 HV HC
   go_upto_region 7 with fail
   refine wp_region_lit ?_;refine A0h rfl _ _ rfl _ rfl _ _ _ _ HS0.out.x Tryz.underlying54 rfl A0n ?_;refine wpList_store_row rfl _ _ _ rfl _ _ rfl rfl _ _ HS0.out.z A0n rfl (A9a _) ?_
   go_wp2_with fail
   refine bodyPost_ret (A0d rfl _ _ (w.heap.size+2) A1f (IN.cells _).toArray (0,0) _ rfl (setRow_heap _ _ _ _ _ _ HS0.out.z) Tryz.underlying54 rfl A0n) rfl ?_
   exact⟨_,_,rfl,HCC.out.symm,(fun h=>absurd h (by decide)),HS0.out.done _⟩
 ·have e20:((r.op:Int)==20)=false:=by rw[beq_eq_false_iff_ne];omega
  by_cases hm:A7f r.op=true
  ·have hor:r.op=178∨r.op=179∨r.op=180∨r.op=181:=by simpa[A7f]using hm
   have HVV:=Lib.hid (show V=C7v K (A3y r) r.a 9 by rw[HV.out];unfold D6z;rw[if_neg o20,if_pos hm])
   have HCC:=Lib.hid (show C=C0i typeB K r.a 9 by rw[HC.out];unfold D2z;rw[if_neg o20,if_pos hm]);have HM:=Lib.hid (B1k W a n cap K r.a 9 HS0.out.k HNN.out)
   have HLN:=Lib.hid (A7g HTX.out r.a 9);unfold A1t at HM;unfold C7v at HVV;unfold C0i at HCC;obtain⟨M,hM⟩:∃M,M=A1u K r.a 9:=⟨_,rfl⟩;rw[←hM]at HM HLN HVV HCC
   dsimp only[A3y]at HVV;clear hM HV HC o20
   rcases hor with o|o|o|o
   all_goals
    have HO:=Lib.hid o
    first|have e178:((r.op:Int)==178)=true:=(by rw[o];rfl)|have e178:((r.op:Int)==178)=false:=(by rw[o];rfl)
    first|have e179:((r.op:Int)==179)=true:=(by rw[o];rfl)|have e179:((r.op:Int)==179)=false:=(by rw[o];rfl)
    first|have e180:((r.op:Int)==180)=true:=(by rw[o];rfl)|have e180:((r.op:Int)==180)=false:=(by rw[o];rfl)
    first|have e181:((r.op:Int)==181)=true:=(by rw[o];rfl)|have e181:((r.op:Int)==181)=false:=(by rw[o];rfl)
    first|have e182:((r.op:Int)==182)=true:=(by rw[o];rfl)|have e182:((r.op:Int)==182)=false:=(by rw[o];rfl)
    first|have e184:((r.op:Int)==184)=true:=(by rw[o];rfl)|have e184:((r.op:Int)==184)=false:=(by rw[o];rfl)
    clear o hm;obtain⟨cl2,nm2,ds2,b0⟩:=M;dsimp only at HM HLN HVV HCC;obtain⟨n1,n2,n3⟩:=HLN.out;have HQ1:=Lib.hid (fun W=>A2u W cl2 (by omega))
    have HQ2:=Lib.hid (fun W=>A8p W nm2 n2);have HQ3:=Lib.hid (fun W=>A7a W ds2 n3);clear n1 n2 n3;generalize classB cl2=b1 at*;generalize A7v nm2=b2 at*
    generalize typeB ds2=b3 at*
    go_upto_region 12 with fail
    go_wp2_with fail
    refine HM.out.mono ?_;rintro e w1 ⟨rfl,hb1⟩;have HS1:=Lib.hid (HS0.out.below hb1);clear hb1 i0 i1 i2 i3 i4 i5 i6 f1 f2 f3 f4 f5 f6 r1 r2 HS0 HM
    obtain⟨i0,i1,i2,i3,i4,i5,i6,f1,f2,f3,f4,f5,f6⟩:=HS1.out.x.box;dsimp only[A3y]at i0 i1 i2 i3 i4 i5 i6
    go_upto_region 13 with fail
    have HS2:=Lib.hid (HS1.out.put HKS.out 3 _ (HS1.out.x.set3 cl2));have HS3:=Lib.hid (HS2.out.put HKS.out 4 _ (HS2.out.x.set4 nm2));have HS4:=Lib.hid (HS3.out.put HKS.out 5 _ (HS3.out.x.set5 ds2))
    clear HS1 HS2 HS3 i0 i1 i2 i3 i4 i5 i6 f1 f2 f3 f4 f5 f6;dsimp only[A3y]at HS4
    generalize((w1.setCell ⟨w.heap.size+1,3,none⟩ (.string ⟨cl2.toArray⟩)).setCell ⟨w.heap.size+1,4,none⟩ (.string ⟨nm2.toArray⟩)).setCell ⟨w.heap.size+1,5,none⟩ (.string ⟨ds2.toArray⟩)=W2 at*
    have HT:=Lib.hid (HS4.out.below ((Below.refl _ _).drew));have hSw:SX w r (⟨r.op,0,0,cl2,nm2,ds2,[]⟩:IN) W2.drew:=⟨HT.out.r,HT.out.x⟩
    have l0:∀z,SX w r (⟨r.op,0,0,cl2,nm2,ds2,[]⟩:IN) z→z.cell? ⟨w.heap.size+1,0,none⟩=some (.int .u8 (r.op:Nat)):=fun z h=>h.2.box.c0
    have l1:∀z,SX w r (⟨r.op,0,0,cl2,nm2,ds2,[]⟩:IN) z→z.cell? ⟨w.heap.size+1,1,none⟩=some (.int .i64 0):=fun z h=>h.2.box.c1
    have l2:∀z,SX w r (⟨r.op,0,0,cl2,nm2,ds2,[]⟩:IN) z→z.cell? ⟨w.heap.size+1,2,none⟩=some (.int .i64 0):=fun z h=>h.2.box.c2
    have l3:∀z,SX w r (⟨r.op,0,0,cl2,nm2,ds2,[]⟩:IN) z→z.cell? ⟨w.heap.size+1,3,none⟩=some (.string ⟨cl2.toArray⟩):=fun z h=>h.2.box.c3
    have l4:∀z,SX w r (⟨r.op,0,0,cl2,nm2,ds2,[]⟩:IN) z→z.cell? ⟨w.heap.size+1,4,none⟩=some (.string ⟨nm2.toArray⟩):=fun z h=>h.2.box.c4
    have l5:∀z,SX w r (⟨r.op,0,0,cl2,nm2,ds2,[]⟩:IN) z→z.cell? ⟨w.heap.size+1,5,none⟩=some (.string ⟨ds2.toArray⟩):=fun z h=>h.2.box.c5
    have l6:∀z,SX w r (⟨r.op,0,0,cl2,nm2,ds2,[]⟩:IN) z→z.cell? ⟨w.heap.size+1,6,none⟩=some (.string ⟨#[]⟩):=fun z h=>h.2.box.c6
    refine A0g (SX w r (⟨r.op,0,0,cl2,nm2,ds2,[]⟩:IN)) (.of [(0,true),(1,true),(2,true),(3,true),(4,true),(5,false),(6,true),(7,true),(8,true),(9,true),(10,false),(11,true),(12,true),(13,true),(14,true),(15,false),(16,true),(17,false)] (.stir [(18,true)])) (by kernel_rfl) (by kernel_rfl) (fun c a d v w h=>by cases d<;>exact h) ?_
    clear HS4;generalize W2.drew=W3 at*
    iterate 3
     refine A0b fun K hK=>tkF ?_
     go_simp
     try go_bits
     refine hK _ _ ?_;clear hK K
    cases b0
    ·iterate 3
      refine A0b fun K hK=>skF ?_
      go_simp;refine hK _ _ ?_;clear hK K
     iterate 2
      refine A0b fun K hK=>tkF ?_
      go_simp
      try go_bits
      refine hK _ _ ?_;clear hK K
     iterate 3
      refine A0b fun K hK=>skF ?_
      go_simp;refine hK _ _ ?_;clear hK K
     iterate 2
      refine A0b fun K hK=>tkF ?_
      go_simp
      try go_bits
      refine hK _ _ ?_;clear hK K
     iterate 3
      refine A0b fun K hK=>skF ?_
      go_simp;refine hK _ _ ?_;clear hK K
     iterate 1
      refine A0b fun K hK=>tkF ?_
      go_simp
      try go_bits
      refine hK _ _ ?_;clear hK K
     refine A0b fun K hK=>alF ?_
     refine wp_store_row A1f _ _ rfl (w.heap.size+2) (IN.cells (⟨r.op,0,0,cl2,nm2,ds2,[]⟩:IN)).toArray rfl rfl A1f _ HT.out.z A0n rfl (A9a (⟨r.op,0,0,cl2,nm2,ds2,[]⟩:IN)) ?_
     have hSn:SX w r (⟨r.op,0,0,cl2,nm2,ds2,[]⟩:IN) (W3.setRow (w.heap.size+2) (IN.cells (⟨r.op,0,0,cl2,nm2,ds2,[]⟩:IN)).toArray):=hSw.setrow _;refine⟨hSn,hK _ _ ?_⟩;clear hK K hSw
     refine A0m (fun y=>y=W3.setRow (w.heap.size+2) (IN.cells (⟨r.op,0,0,cl2,nm2,ds2,[]⟩:IN)).toArray) (fun y hy=>hy▸hSn) rfl ?_
     iterate 1
      refine A0i fun K hK=>tkX ?_
      go_simp
      try go_bits
      refine hK _ ?_;clear hK K
     refine A0p (fun y hy=> ?_);obtain rfl:W3.setRow (w.heap.size+2) (IN.cells (⟨r.op,0,0,cl2,nm2,ds2,[]⟩:IN)).toArray=y:=Eq.symm hy
     go_wp2_with fail
     refine bodyPost_ret (A0d rfl _ _ (w.heap.size+2) A1f (IN.cells (⟨r.op,0,0,cl2,nm2,ds2,[]⟩:IN)).toArray (0,0) _ rfl (setRow_heap _ _ _ _ _ _ HT.out.z) Tryz.underlying54 rfl A0n) rfl ?_
     exact⟨(⟨r.op,0,0,cl2,nm2,ds2,[]⟩:IN),false,rfl,(by rw[HCC.out];rfl),(fun _=>HVV.out.symm),HT.out.done _⟩
    ·iterate 2
      refine A0b fun K hK=>tkF ?_
      go_simp
      try go_bits
      refine hK _ _ ?_;clear hK K
     refine A0b fun K hK=>alF ?_
     go_step;refine(HQ1.out W3).mono ?_;rintro e w9 ⟨rfl,hw9⟩;obtain rfl:W3=w9:=Eq.symm hw9;go_simp
     first|refine⟨hSw,hK _ _ ?_⟩|refine hK _ _ ?_
     clear hK K
     iterate 2
      refine A0b fun K hK=>tkF ?_
      go_simp
      try go_bits
      refine hK _ _ ?_;clear hK K
     cases b1
     ·iterate 3
       refine A0b fun K hK=>skF ?_
       go_simp;refine hK _ _ ?_;clear hK K
      iterate 2
       refine A0b fun K hK=>tkF ?_
       go_simp
       try go_bits
       refine hK _ _ ?_;clear hK K
      iterate 3
       refine A0b fun K hK=>skF ?_
       go_simp;refine hK _ _ ?_;clear hK K
      iterate 1
       refine A0b fun K hK=>tkF ?_
       go_simp
       try go_bits
       refine hK _ _ ?_;clear hK K
      refine A0b fun K hK=>alF ?_
      refine wp_store_row A1f _ _ rfl (w.heap.size+2) (IN.cells (⟨r.op,0,0,cl2,nm2,ds2,[]⟩:IN)).toArray rfl rfl A1f _ HT.out.z A0n rfl (A9a (⟨r.op,0,0,cl2,nm2,ds2,[]⟩:IN)) ?_
      have hSn:SX w r (⟨r.op,0,0,cl2,nm2,ds2,[]⟩:IN) (W3.setRow (w.heap.size+2) (IN.cells (⟨r.op,0,0,cl2,nm2,ds2,[]⟩:IN)).toArray):=hSw.setrow _;refine⟨hSn,hK _ _ ?_⟩
      clear hK K hSw;refine A0m (fun y=>y=W3.setRow (w.heap.size+2) (IN.cells (⟨r.op,0,0,cl2,nm2,ds2,[]⟩:IN)).toArray) (fun y hy=>hy▸hSn) rfl ?_
      iterate 1
       refine A0i fun K hK=>tkX ?_
       go_simp
       try go_bits
       refine hK _ ?_;clear hK K
      refine A0p (fun y hy=> ?_);obtain rfl:W3.setRow (w.heap.size+2) (IN.cells (⟨r.op,0,0,cl2,nm2,ds2,[]⟩:IN)).toArray=y:=Eq.symm hy
      go_wp2_with fail
      refine bodyPost_ret (A0d rfl _ _ (w.heap.size+2) A1f (IN.cells (⟨r.op,0,0,cl2,nm2,ds2,[]⟩:IN)).toArray (0,0) _ rfl (setRow_heap _ _ _ _ _ _ HT.out.z) Tryz.underlying54 rfl A0n) rfl ?_
      exact⟨(⟨r.op,0,0,cl2,nm2,ds2,[]⟩:IN),false,rfl,(by rw[HCC.out];rfl),(fun _=>HVV.out.symm),HT.out.done _⟩
     ·iterate 2
       refine A0b fun K hK=>tkF ?_
       go_simp
       try go_bits
       refine hK _ _ ?_;clear hK K
      refine A0b fun K hK=>alF ?_
      go_step;refine(HQ2.out W3).mono ?_;rintro e w9 ⟨rfl,hw9⟩;obtain rfl:W3=w9:=Eq.symm hw9;go_simp
      first|refine⟨hSw,hK _ _ ?_⟩|refine hK _ _ ?_
      clear hK K
      iterate 2
       refine A0b fun K hK=>tkF ?_
       go_simp
       try go_bits
       refine hK _ _ ?_;clear hK K
      cases b2
      ·iterate 3
        refine A0b fun K hK=>skF ?_
        go_simp;refine hK _ _ ?_;clear hK K
       iterate 1
        refine A0b fun K hK=>tkF ?_
        go_simp
        try go_bits
        refine hK _ _ ?_;clear hK K
       refine A0b fun K hK=>alF ?_
       refine wp_store_row A1f _ _ rfl (w.heap.size+2) (IN.cells (⟨r.op,0,0,cl2,nm2,ds2,[]⟩:IN)).toArray rfl rfl A1f _ HT.out.z A0n rfl (A9a (⟨r.op,0,0,cl2,nm2,ds2,[]⟩:IN)) ?_
       have hSn:SX w r (⟨r.op,0,0,cl2,nm2,ds2,[]⟩:IN) (W3.setRow (w.heap.size+2) (IN.cells (⟨r.op,0,0,cl2,nm2,ds2,[]⟩:IN)).toArray):=hSw.setrow _;refine⟨hSn,hK _ _ ?_⟩
       clear hK K hSw;refine A0m (fun y=>y=W3.setRow (w.heap.size+2) (IN.cells (⟨r.op,0,0,cl2,nm2,ds2,[]⟩:IN)).toArray) (fun y hy=>hy▸hSn) rfl ?_
       iterate 1
        refine A0i fun K hK=>tkX ?_
        go_simp
        try go_bits
        refine hK _ ?_;clear hK K
       refine A0p (fun y hy=> ?_);obtain rfl:W3.setRow (w.heap.size+2) (IN.cells (⟨r.op,0,0,cl2,nm2,ds2,[]⟩:IN)).toArray=y:=Eq.symm hy
       go_wp2_with fail
       refine bodyPost_ret (A0d rfl _ _ (w.heap.size+2) A1f (IN.cells (⟨r.op,0,0,cl2,nm2,ds2,[]⟩:IN)).toArray (0,0) _ rfl (setRow_heap _ _ _ _ _ _ HT.out.z) Tryz.underlying54 rfl A0n) rfl ?_
       exact⟨(⟨r.op,0,0,cl2,nm2,ds2,[]⟩:IN),false,rfl,(by rw[HCC.out];rfl),(fun _=>HVV.out.symm),HT.out.done _⟩
      ·iterate 2
        refine A0b fun K hK=>tkF ?_
        go_simp
        try go_bits
        refine hK _ _ ?_;clear hK K
       refine A0b fun K hK=>alF ?_
       go_step;refine(HQ3.out W3).mono ?_;rintro e w9 ⟨rfl,hw9⟩;obtain rfl:W3=w9:=Eq.symm hw9;go_simp
       first|refine⟨hSw,hK _ _ ?_⟩|refine hK _ _ ?_
       clear hK K
       iterate 1
        refine A0b fun K hK=>tkF ?_
        go_simp
        try go_bits
        refine hK _ _ ?_;clear hK K
       refine A0b fun K hK=>alF ?_
       refine wp_store_row A1f _ _ rfl (w.heap.size+2) (IN.cells (⟨r.op,0,0,cl2,nm2,ds2,[]⟩:IN)).toArray rfl rfl A1f _ HT.out.z A0n rfl (A9a (⟨r.op,0,0,cl2,nm2,ds2,[]⟩:IN)) ?_
       have hSn:SX w r (⟨r.op,0,0,cl2,nm2,ds2,[]⟩:IN) (W3.setRow (w.heap.size+2) (IN.cells (⟨r.op,0,0,cl2,nm2,ds2,[]⟩:IN)).toArray):=hSw.setrow _;refine⟨hSn,hK _ _ ?_⟩
       clear hK K hSw;refine A0m (fun y=>y=W3.setRow (w.heap.size+2) (IN.cells (⟨r.op,0,0,cl2,nm2,ds2,[]⟩:IN)).toArray) (fun y hy=>hy▸hSn) rfl ?_
       iterate 1
        refine A0i fun K hK=>tkX ?_
        go_simp
        try go_bits
        refine hK _ ?_;clear hK K
       refine A0p (fun y hy=> ?_);obtain rfl:W3.setRow (w.heap.size+2) (IN.cells (⟨r.op,0,0,cl2,nm2,ds2,[]⟩:IN)).toArray=y:=Eq.symm hy
       go_wp2_with fail
       refine bodyPost_ret (A0d rfl _ _ (w.heap.size+2) A1f (IN.cells (⟨r.op,0,0,cl2,nm2,ds2,[]⟩:IN)).toArray (0,0) _ rfl (setRow_heap _ _ _ _ _ _ HT.out.z) Tryz.underlying54 rfl A0n) rfl ?_
       exact⟨(⟨r.op,0,0,cl2,nm2,ds2,[]⟩:IN),b3,rfl,(by rw[HCC.out];rfl),(fun _=>HVV.out.symm),HT.out.done _⟩
  ·by_cases hv:B0k r.op=true
   ·have hor:r.op=182∨r.op=184:=by simpa[B0k]using hv
    have hm':=hm;have HVV:=Lib.hid (show V=C7v K (A3y r) r.a 10 by rw[HV.out];unfold D6z;rw[if_neg o20,if_neg hm,if_pos hv])
    have HCC:=Lib.hid (show C=C0i A3x K r.a 10 by rw[HC.out];unfold D2z;rw[if_neg o20,if_neg hm,if_pos hv]);have HM:=Lib.hid (B1k W a n cap K r.a 10 HS0.out.k HNN.out)
    have HLN:=Lib.hid (A7g HTX.out r.a 10);unfold A1t at HM;unfold C7v at HVV;unfold C0i at HCC;obtain⟨M,hM⟩:∃M,M=A1u K r.a 10:=⟨_,rfl⟩;rw[←hM]at HM HLN HVV HCC
    dsimp only[A3y]at HVV;clear hM HV HC o20
    rcases hor with o|o
    all_goals
     have HO:=Lib.hid o
     first|have e178:((r.op:Int)==178)=true:=(by rw[o];rfl)|have e178:((r.op:Int)==178)=false:=(by rw[o];rfl)
     first|have e179:((r.op:Int)==179)=true:=(by rw[o];rfl)|have e179:((r.op:Int)==179)=false:=(by rw[o];rfl)
     first|have e180:((r.op:Int)==180)=true:=(by rw[o];rfl)|have e180:((r.op:Int)==180)=false:=(by rw[o];rfl)
     first|have e181:((r.op:Int)==181)=true:=(by rw[o];rfl)|have e181:((r.op:Int)==181)=false:=(by rw[o];rfl)
     first|have e182:((r.op:Int)==182)=true:=(by rw[o];rfl)|have e182:((r.op:Int)==182)=false:=(by rw[o];rfl)
     first|have e184:((r.op:Int)==184)=true:=(by rw[o];rfl)|have e184:((r.op:Int)==184)=false:=(by rw[o];rfl)
     clear o hm;obtain⟨cl2,nm2,ds2,b0⟩:=M;dsimp only at HM HLN HVV HCC;obtain⟨n1,n2,n3⟩:=HLN.out;have HQ1:=Lib.hid (fun W=>A2u W cl2 (by omega))
     have HQ2:=Lib.hid (fun W=>A8p W nm2 n2);have HQ3:=Lib.hid (fun W=>B1y W ds2 n3);clear n1 n2 n3;generalize classB cl2=b1 at*;generalize A7v nm2=b2 at*
     generalize A3x ds2=b3 at*
     go_upto_region 16 with fail
     go_wp2_with fail
     refine HM.out.mono ?_;rintro e w1 ⟨rfl,hb1⟩;have HS1:=Lib.hid (HS0.out.below hb1);clear hb1 i0 i1 i2 i3 i4 i5 i6 f1 f2 f3 f4 f5 f6 r1 r2 HS0 HM
     obtain⟨i0,i1,i2,i3,i4,i5,i6,f1,f2,f3,f4,f5,f6⟩:=HS1.out.x.box;dsimp only[A3y]at i0 i1 i2 i3 i4 i5 i6
     go_upto_region 17 with fail
     have HS2:=Lib.hid (HS1.out.put HKS.out 3 _ (HS1.out.x.set3 cl2));have HS3:=Lib.hid (HS2.out.put HKS.out 4 _ (HS2.out.x.set4 nm2))
     have HS4:=Lib.hid (HS3.out.put HKS.out 5 _ (HS3.out.x.set5 ds2));clear HS1 HS2 HS3 i0 i1 i2 i3 i4 i5 i6 f1 f2 f3 f4 f5 f6;dsimp only[A3y]at HS4
     generalize((w1.setCell ⟨w.heap.size+1,3,none⟩ (.string ⟨cl2.toArray⟩)).setCell ⟨w.heap.size+1,4,none⟩ (.string ⟨nm2.toArray⟩)).setCell ⟨w.heap.size+1,5,none⟩ (.string ⟨ds2.toArray⟩)=W2 at*
     have HT:=Lib.hid (HS4.out.below ((Below.refl _ _).drew));have hSw:SX w r (⟨r.op,0,0,cl2,nm2,ds2,[]⟩:IN) W2.drew:=⟨HT.out.r,HT.out.x⟩
     have l0:∀z,SX w r (⟨r.op,0,0,cl2,nm2,ds2,[]⟩:IN) z→z.cell? ⟨w.heap.size+1,0,none⟩=some (.int .u8 (r.op:Nat)):=fun z h=>h.2.box.c0
     have l1:∀z,SX w r (⟨r.op,0,0,cl2,nm2,ds2,[]⟩:IN) z→z.cell? ⟨w.heap.size+1,1,none⟩=some (.int .i64 0):=fun z h=>h.2.box.c1
     have l2:∀z,SX w r (⟨r.op,0,0,cl2,nm2,ds2,[]⟩:IN) z→z.cell? ⟨w.heap.size+1,2,none⟩=some (.int .i64 0):=fun z h=>h.2.box.c2
     have l3:∀z,SX w r (⟨r.op,0,0,cl2,nm2,ds2,[]⟩:IN) z→z.cell? ⟨w.heap.size+1,3,none⟩=some (.string ⟨cl2.toArray⟩):=fun z h=>h.2.box.c3
     have l4:∀z,SX w r (⟨r.op,0,0,cl2,nm2,ds2,[]⟩:IN) z→z.cell? ⟨w.heap.size+1,4,none⟩=some (.string ⟨nm2.toArray⟩):=fun z h=>h.2.box.c4
     have l5:∀z,SX w r (⟨r.op,0,0,cl2,nm2,ds2,[]⟩:IN) z→z.cell? ⟨w.heap.size+1,5,none⟩=some (.string ⟨ds2.toArray⟩):=fun z h=>h.2.box.c5
     have l6:∀z,SX w r (⟨r.op,0,0,cl2,nm2,ds2,[]⟩:IN) z→z.cell? ⟨w.heap.size+1,6,none⟩=some (.string ⟨#[]⟩):=fun z h=>h.2.box.c6
     refine A0g (SX w r (⟨r.op,0,0,cl2,nm2,ds2,[]⟩:IN)) (.of [(0,true),(1,true),(2,true),(3,true),(4,true),(5,false),(6,true),(7,true),(8,true),(9,true),(10,false),(11,true),(12,true),(13,true),(14,true),(15,false),(16,true),(17,false)] (.stir [(18,true)])) (by kernel_rfl) (by kernel_rfl) (fun c a d v w h=>by cases d<;>exact h) ?_
     clear HS4;generalize W2.drew=W3 at*
     iterate 3
      refine A0b fun K hK=>tkF ?_
      go_simp
      try go_bits
      refine hK _ _ ?_;clear hK K
     cases b0
     ·iterate 3
       refine A0b fun K hK=>skF ?_
       go_simp;refine hK _ _ ?_;clear hK K
      iterate 2
       refine A0b fun K hK=>tkF ?_
       go_simp
       try go_bits
       refine hK _ _ ?_;clear hK K
      iterate 3
       refine A0b fun K hK=>skF ?_
       go_simp;refine hK _ _ ?_;clear hK K
      iterate 2
       refine A0b fun K hK=>tkF ?_
       go_simp
       try go_bits
       refine hK _ _ ?_;clear hK K
      iterate 3
       refine A0b fun K hK=>skF ?_
       go_simp;refine hK _ _ ?_;clear hK K
      iterate 1
       refine A0b fun K hK=>tkF ?_
       go_simp
       try go_bits
       refine hK _ _ ?_;clear hK K
      refine A0b fun K hK=>alF ?_
      refine wp_store_row A1f _ _ rfl (w.heap.size+2) (IN.cells (⟨r.op,0,0,cl2,nm2,ds2,[]⟩:IN)).toArray rfl rfl A1f _ HT.out.z A0n rfl (A9a (⟨r.op,0,0,cl2,nm2,ds2,[]⟩:IN)) ?_
      have hSn:SX w r (⟨r.op,0,0,cl2,nm2,ds2,[]⟩:IN) (W3.setRow (w.heap.size+2) (IN.cells (⟨r.op,0,0,cl2,nm2,ds2,[]⟩:IN)).toArray):=hSw.setrow _;refine⟨hSn,hK _ _ ?_⟩
      clear hK K hSw;refine A0m (fun y=>y=W3.setRow (w.heap.size+2) (IN.cells (⟨r.op,0,0,cl2,nm2,ds2,[]⟩:IN)).toArray) (fun y hy=>hy▸hSn) rfl ?_
      iterate 1
       refine A0i fun K hK=>tkX ?_
       go_simp
       try go_bits
       refine hK _ ?_;clear hK K
      refine A0p (fun y hy=> ?_);obtain rfl:W3.setRow (w.heap.size+2) (IN.cells (⟨r.op,0,0,cl2,nm2,ds2,[]⟩:IN)).toArray=y:=Eq.symm hy
      go_wp2_with fail
      refine bodyPost_ret (A0d rfl _ _ (w.heap.size+2) A1f (IN.cells (⟨r.op,0,0,cl2,nm2,ds2,[]⟩:IN)).toArray (0,0) _ rfl (setRow_heap _ _ _ _ _ _ HT.out.z) Tryz.underlying54 rfl A0n) rfl ?_
      exact⟨(⟨r.op,0,0,cl2,nm2,ds2,[]⟩:IN),false,rfl,(by rw[HCC.out];rfl),(fun _=>HVV.out.symm),HT.out.done _⟩
     ·iterate 2
       refine A0b fun K hK=>tkF ?_
       go_simp
       try go_bits
       refine hK _ _ ?_;clear hK K
      refine A0b fun K hK=>alF ?_
      go_step;refine(HQ1.out W3).mono ?_;rintro e w9 ⟨rfl,hw9⟩;obtain rfl:W3=w9:=Eq.symm hw9;go_simp
      first|refine⟨hSw,hK _ _ ?_⟩|refine hK _ _ ?_
      clear hK K
      iterate 2
       refine A0b fun K hK=>tkF ?_
       go_simp
       try go_bits
       refine hK _ _ ?_;clear hK K
      cases b1
      ·iterate 3
        refine A0b fun K hK=>skF ?_
        go_simp;refine hK _ _ ?_;clear hK K
       iterate 2
        refine A0b fun K hK=>tkF ?_
        go_simp
        try go_bits
        refine hK _ _ ?_;clear hK K
       iterate 3
        refine A0b fun K hK=>skF ?_
        go_simp;refine hK _ _ ?_;clear hK K
       iterate 1
        refine A0b fun K hK=>tkF ?_
        go_simp
        try go_bits
        refine hK _ _ ?_;clear hK K
       refine A0b fun K hK=>alF ?_
       refine wp_store_row A1f _ _ rfl (w.heap.size+2) (IN.cells (⟨r.op,0,0,cl2,nm2,ds2,[]⟩:IN)).toArray rfl rfl A1f _ HT.out.z A0n rfl (A9a (⟨r.op,0,0,cl2,nm2,ds2,[]⟩:IN)) ?_
       have hSn:SX w r (⟨r.op,0,0,cl2,nm2,ds2,[]⟩:IN) (W3.setRow (w.heap.size+2) (IN.cells (⟨r.op,0,0,cl2,nm2,ds2,[]⟩:IN)).toArray):=hSw.setrow _;refine⟨hSn,hK _ _ ?_⟩
       clear hK K hSw;refine A0m (fun y=>y=W3.setRow (w.heap.size+2) (IN.cells (⟨r.op,0,0,cl2,nm2,ds2,[]⟩:IN)).toArray) (fun y hy=>hy▸hSn) rfl ?_
       iterate 1
        refine A0i fun K hK=>tkX ?_
        go_simp
        try go_bits
        refine hK _ ?_;clear hK K
       refine A0p (fun y hy=> ?_);obtain rfl:W3.setRow (w.heap.size+2) (IN.cells (⟨r.op,0,0,cl2,nm2,ds2,[]⟩:IN)).toArray=y:=Eq.symm hy
       go_wp2_with fail
       refine bodyPost_ret (A0d rfl _ _ (w.heap.size+2) A1f (IN.cells (⟨r.op,0,0,cl2,nm2,ds2,[]⟩:IN)).toArray (0,0) _ rfl (setRow_heap _ _ _ _ _ _ HT.out.z) Tryz.underlying54 rfl A0n) rfl ?_
       exact⟨(⟨r.op,0,0,cl2,nm2,ds2,[]⟩:IN),false,rfl,(by rw[HCC.out];rfl),(fun _=>HVV.out.symm),HT.out.done _⟩
      ·iterate 2
        refine A0b fun K hK=>tkF ?_
        go_simp
        try go_bits
        refine hK _ _ ?_;clear hK K
       refine A0b fun K hK=>alF ?_
       go_step;refine(HQ2.out W3).mono ?_;rintro e w9 ⟨rfl,hw9⟩;obtain rfl:W3=w9:=Eq.symm hw9;go_simp
       first|refine⟨hSw,hK _ _ ?_⟩|refine hK _ _ ?_
       clear hK K
       iterate 2
        refine A0b fun K hK=>tkF ?_
        go_simp
        try go_bits
        refine hK _ _ ?_;clear hK K
       cases b2
       ·iterate 3
         refine A0b fun K hK=>skF ?_
         go_simp;refine hK _ _ ?_;clear hK K
        iterate 1
         refine A0b fun K hK=>tkF ?_
         go_simp
         try go_bits
         refine hK _ _ ?_;clear hK K
        refine A0b fun K hK=>alF ?_
        refine wp_store_row A1f _ _ rfl (w.heap.size+2) (IN.cells (⟨r.op,0,0,cl2,nm2,ds2,[]⟩:IN)).toArray rfl rfl A1f _ HT.out.z A0n rfl (A9a (⟨r.op,0,0,cl2,nm2,ds2,[]⟩:IN)) ?_
        have hSn:SX w r (⟨r.op,0,0,cl2,nm2,ds2,[]⟩:IN) (W3.setRow (w.heap.size+2) (IN.cells (⟨r.op,0,0,cl2,nm2,ds2,[]⟩:IN)).toArray):=hSw.setrow _;refine⟨hSn,hK _ _ ?_⟩
        clear hK K hSw;refine A0m (fun y=>y=W3.setRow (w.heap.size+2) (IN.cells (⟨r.op,0,0,cl2,nm2,ds2,[]⟩:IN)).toArray) (fun y hy=>hy▸hSn) rfl ?_
        iterate 1
         refine A0i fun K hK=>tkX ?_
         go_simp
         try go_bits
         refine hK _ ?_;clear hK K
        refine A0p (fun y hy=> ?_);obtain rfl:W3.setRow (w.heap.size+2) (IN.cells (⟨r.op,0,0,cl2,nm2,ds2,[]⟩:IN)).toArray=y:=Eq.symm hy
        go_wp2_with fail
        refine bodyPost_ret (A0d rfl _ _ (w.heap.size+2) A1f (IN.cells (⟨r.op,0,0,cl2,nm2,ds2,[]⟩:IN)).toArray (0,0) _ rfl (setRow_heap _ _ _ _ _ _ HT.out.z) Tryz.underlying54 rfl A0n) rfl ?_
        exact⟨(⟨r.op,0,0,cl2,nm2,ds2,[]⟩:IN),false,rfl,(by rw[HCC.out];rfl),(fun _=>HVV.out.symm),HT.out.done _⟩
       ·iterate 2
         refine A0b fun K hK=>tkF ?_
         go_simp
         try go_bits
         refine hK _ _ ?_;clear hK K
        refine A0b fun K hK=>alF ?_
        go_step;refine(HQ3.out W3).mono ?_;rintro e w9 ⟨rfl,hb9⟩;replace HT:=Lib.hid (HT.out.below hb9);replace hSw:=hSw.below hb9;clear hb9;go_simp
        first|refine⟨hSw,hK _ _ ?_⟩|refine hK _ _ ?_
        clear hK K
        iterate 1
         refine A0b fun K hK=>tkF ?_
         go_simp
         try go_bits
         refine hK _ _ ?_;clear hK K
        refine A0b fun K hK=>alF ?_
        refine wp_store_row A1f _ _ rfl (w.heap.size+2) (IN.cells (⟨r.op,0,0,cl2,nm2,ds2,[]⟩:IN)).toArray rfl rfl A1f _ HT.out.z A0n rfl (A9a (⟨r.op,0,0,cl2,nm2,ds2,[]⟩:IN)) ?_
        have hSn:SX w r (⟨r.op,0,0,cl2,nm2,ds2,[]⟩:IN) (w9.setRow (w.heap.size+2) (IN.cells (⟨r.op,0,0,cl2,nm2,ds2,[]⟩:IN)).toArray):=hSw.setrow _;refine⟨hSn,hK _ _ ?_⟩
        clear hK K hSw;refine A0m (fun y=>y=w9.setRow (w.heap.size+2) (IN.cells (⟨r.op,0,0,cl2,nm2,ds2,[]⟩:IN)).toArray) (fun y hy=>hy▸hSn) rfl ?_
        iterate 1
         refine A0i fun K hK=>tkX ?_
         go_simp
         try go_bits
         refine hK _ ?_;clear hK K
        refine A0p (fun y hy=> ?_);obtain rfl:w9.setRow (w.heap.size+2) (IN.cells (⟨r.op,0,0,cl2,nm2,ds2,[]⟩:IN)).toArray=y:=Eq.symm hy
        go_wp2_with fail
        refine bodyPost_ret (A0d rfl _ _ (w.heap.size+2) A1f (IN.cells (⟨r.op,0,0,cl2,nm2,ds2,[]⟩:IN)).toArray (0,0) _ rfl (setRow_heap _ _ _ _ _ _ HT.out.z) Tryz.underlying54 rfl A0n) rfl ?_
        exact⟨(⟨r.op,0,0,cl2,nm2,ds2,[]⟩:IN),b3,rfl,(by rw[HCC.out];rfl),(fun _=>HVV.out.symm),HT.out.done _⟩
   ·have HVV:=Lib.hid (show V={A3y r with cl:=(A0s K r.a).1} by rw[HV.out];unfold D6z;rw[if_neg o20,if_neg hm,if_neg hv])
    have HCC:=Lib.hid (show C=aclsB K r.a (decide (r.op≠187)) by rw[HC.out];unfold D2z;rw[if_neg o20,if_neg hm,if_neg hv]);have HM:=Lib.hid (A4p W a n cap K r.a HS0.out.k HNN.out)
    have HLN:=Lib.hid (A2t HTX.out r.a);unfold A4f at HM;unfold aclsB at HCC;obtain⟨M,hM⟩:∃M,M=A0s K r.a:=⟨_,rfl⟩;rw[←hM]at HM HLN HVV HCC;dsimp only[A3y]at HVV
    simp only[A7f,B0k,Bool.or_eq_true,decide_eq_true_eq,not_or]at hm hv;obtain⟨m1,m2,m3,m4⟩:=hm;obtain⟨m5,m6⟩:=hv
    have e178:((r.op:Int)==178)=false:=by rw[beq_eq_false_iff_ne];omega
    have e179:((r.op:Int)==179)=false:=by rw[beq_eq_false_iff_ne];omega
    have e180:((r.op:Int)==180)=false:=by rw[beq_eq_false_iff_ne];omega
    have e181:((r.op:Int)==181)=false:=by rw[beq_eq_false_iff_ne];omega
    have e182:((r.op:Int)==182)=false:=by rw[beq_eq_false_iff_ne];omega
    have e184:((r.op:Int)==184)=false:=by rw[beq_eq_false_iff_ne];omega
    have e187:((r.op:Int) !=187)=decide (r.op≠187):=by by_cases h:r.op=187<;>simp[h]<;>omega
    clear hM HV HC o20 m1 m2 m3 m4 m5 m6;generalize decide (r.op≠187)=arr at*;obtain⟨cl2,b0⟩:=M;dsimp only at HM HLN HVV HCC;have n1:=HLN.out
    have HQ1:=Lib.hid (fun W=>A2u W cl2 (by omega));have HQ2:=Lib.hid (fun W=>B3h W cl2 n1);clear n1;generalize classB cl2=b1 at*;generalize A2z cl2=b2 at*
    go_upto_region 18 with fail
    go_wp2_with fail
    refine HM.out.mono ?_;rintro e w1 ⟨rfl,hw1⟩;obtain rfl:W=w1:=hw1;clear HM
    go_upto_region 19 with fail
    have HS4:=Lib.hid (HS0.out.put HKS.out 3 _ (HS0.out.x.set3 cl2));clear HS0 i0 i1 i2 i3 i4 i5 i6 f1 f2 f3 f4 f5 f6 r1 r2;dsimp only[A3y]at HS4
    generalize W.setCell ⟨w.heap.size+1,3,none⟩ (.string ⟨cl2.toArray⟩)=W2 at*;have HT:=Lib.hid (HS4.out.below ((Below.refl _ _).drew))
    have hSw:SX w r (⟨r.op,0,0,cl2,[],[],[]⟩:IN) W2.drew:=⟨HT.out.r,HT.out.x⟩
    have l0:∀z,SX w r (⟨r.op,0,0,cl2,[],[],[]⟩:IN) z→z.cell? ⟨w.heap.size+1,0,none⟩=some (.int .u8 (r.op:Nat)):=fun z h=>h.2.box.c0
    have l1:∀z,SX w r (⟨r.op,0,0,cl2,[],[],[]⟩:IN) z→z.cell? ⟨w.heap.size+1,1,none⟩=some (.int .i64 0):=fun z h=>h.2.box.c1
    have l2:∀z,SX w r (⟨r.op,0,0,cl2,[],[],[]⟩:IN) z→z.cell? ⟨w.heap.size+1,2,none⟩=some (.int .i64 0):=fun z h=>h.2.box.c2
    have l3:∀z,SX w r (⟨r.op,0,0,cl2,[],[],[]⟩:IN) z→z.cell? ⟨w.heap.size+1,3,none⟩=some (.string ⟨cl2.toArray⟩):=fun z h=>h.2.box.c3
    have l4:∀z,SX w r (⟨r.op,0,0,cl2,[],[],[]⟩:IN) z→z.cell? ⟨w.heap.size+1,4,none⟩=some (.string ⟨#[]⟩):=fun z h=>h.2.box.c4
    have l5:∀z,SX w r (⟨r.op,0,0,cl2,[],[],[]⟩:IN) z→z.cell? ⟨w.heap.size+1,5,none⟩=some (.string ⟨#[]⟩):=fun z h=>h.2.box.c5
    have l6:∀z,SX w r (⟨r.op,0,0,cl2,[],[],[]⟩:IN) z→z.cell? ⟨w.heap.size+1,6,none⟩=some (.string ⟨#[]⟩):=fun z h=>h.2.box.c6
    have la:∀z,SX w r (⟨r.op,0,0,cl2,[],[],[]⟩:IN) z→z.cell? ⟨w.heap.size,1,none⟩=some (.int .u8 (r.op:Nat)):=fun z h=>A0a h.1 1 rfl
    refine A0g (SX w r (⟨r.op,0,0,cl2,[],[],[]⟩:IN)) (.of [(0,true),(1,true),(2,true),(3,true),(4,true),(5,false),(6,true),(7,true),(8,true),(9,true),(10,true),(11,true),(12,true),(13,false),(14,true),(15,true),(16,true),(17,false)] (.stir [(18,true)])) (by kernel_rfl) (by kernel_rfl) (fun c a d v w h=>by cases d<;>exact h) ?_
    clear HS4;generalize W2.drew=W3 at*
    iterate 3
     refine A0b fun K hK=>tkF ?_
     go_simp
     try go_bits
     refine hK _ _ ?_;clear hK K
    cases b0
    ·iterate 13
      refine A0b fun K hK=>skF ?_
      go_simp;refine hK _ _ ?_;clear hK K
     iterate 1
      refine A0b fun K hK=>tkF ?_
      go_simp
      try go_bits
      refine hK _ _ ?_;clear hK K
     refine A0b fun K hK=>alF ?_
     refine wp_store_row A1f _ _ rfl (w.heap.size+2) (IN.cells (⟨r.op,0,0,cl2,[],[],[]⟩:IN)).toArray rfl rfl A1f _ HT.out.z A0n rfl (A9a (⟨r.op,0,0,cl2,[],[],[]⟩:IN)) ?_
     have hSn:SX w r (⟨r.op,0,0,cl2,[],[],[]⟩:IN) (W3.setRow (w.heap.size+2) (IN.cells (⟨r.op,0,0,cl2,[],[],[]⟩:IN)).toArray):=hSw.setrow _;refine⟨hSn,hK _ _ ?_⟩;clear hK K hSw
     refine A0m (fun y=>y=W3.setRow (w.heap.size+2) (IN.cells (⟨r.op,0,0,cl2,[],[],[]⟩:IN)).toArray) (fun y hy=>hy▸hSn) rfl ?_
     iterate 1
      refine A0i fun K hK=>tkX ?_
      go_simp
      try go_bits
      refine hK _ ?_;clear hK K
     refine A0p (fun y hy=> ?_);obtain rfl:W3.setRow (w.heap.size+2) (IN.cells (⟨r.op,0,0,cl2,[],[],[]⟩:IN)).toArray=y:=Eq.symm hy
     go_wp2_with fail
     refine bodyPost_ret (A0d rfl _ _ (w.heap.size+2) A1f (IN.cells (⟨r.op,0,0,cl2,[],[],[]⟩:IN)).toArray (0,0) _ rfl (setRow_heap _ _ _ _ _ _ HT.out.z) Tryz.underlying54 rfl A0n) rfl ?_
     exact⟨(⟨r.op,0,0,cl2,[],[],[]⟩:IN),false,rfl,(by rw[HCC.out];rfl),(fun _=>HVV.out.symm),HT.out.done _⟩
    ·iterate 2
      refine A0b fun K hK=>tkF ?_
      go_simp
      try go_bits
      refine hK _ _ ?_;clear hK K
     refine A0b fun K hK=>alF ?_
     go_step;refine(HQ1.out W3).mono ?_;rintro e w9 ⟨rfl,hw9⟩;obtain rfl:W3=w9:=Eq.symm hw9;go_simp
     first|refine⟨hSw,hK _ _ ?_⟩|refine hK _ _ ?_
     clear hK K
     iterate 1
      refine A0b fun K hK=>tkF ?_
      go_simp
      try go_bits
      refine hK _ _ ?_;clear hK K
     cases b1
     ·iterate 4
       refine A0b fun K hK=>tkF ?_
       go_simp
       try go_bits
       refine hK _ _ ?_;clear hK K
      cases arr
      ·iterate 3
        refine A0b fun K hK=>skF ?_
        go_simp;refine hK _ _ ?_;clear hK K
       iterate 3
        refine A0b fun K hK=>tkF ?_
        go_simp
        try go_bits
        refine hK _ _ ?_;clear hK K
       refine A0b fun K hK=>alF ?_
       refine wp_store_row A1f _ _ rfl (w.heap.size+2) (IN.cells (⟨r.op,0,0,cl2,[],[],[]⟩:IN)).toArray rfl rfl A1f _ HT.out.z A0n rfl (A9a (⟨r.op,0,0,cl2,[],[],[]⟩:IN)) ?_
       have hSn:SX w r (⟨r.op,0,0,cl2,[],[],[]⟩:IN) (W3.setRow (w.heap.size+2) (IN.cells (⟨r.op,0,0,cl2,[],[],[]⟩:IN)).toArray):=hSw.setrow _;refine⟨hSn,hK _ _ ?_⟩
       clear hK K hSw;refine A0m (fun y=>y=W3.setRow (w.heap.size+2) (IN.cells (⟨r.op,0,0,cl2,[],[],[]⟩:IN)).toArray) (fun y hy=>hy▸hSn) rfl ?_
       iterate 1
        refine A0i fun K hK=>tkX ?_
        go_simp
        try go_bits
        refine hK _ ?_;clear hK K
       refine A0p (fun y hy=> ?_);obtain rfl:W3.setRow (w.heap.size+2) (IN.cells (⟨r.op,0,0,cl2,[],[],[]⟩:IN)).toArray=y:=Eq.symm hy
       go_wp2_with fail
       refine bodyPost_ret (A0d rfl _ _ (w.heap.size+2) A1f (IN.cells (⟨r.op,0,0,cl2,[],[],[]⟩:IN)).toArray (0,0) _ rfl (setRow_heap _ _ _ _ _ _ HT.out.z) Tryz.underlying54 rfl A0n) rfl ?_
       exact⟨(⟨r.op,0,0,cl2,[],[],[]⟩:IN),false,rfl,(by rw[HCC.out];rfl),(fun _=>HVV.out.symm),HT.out.done _⟩
      ·iterate 2
        refine A0b fun K hK=>tkF ?_
        go_simp
        try go_bits
        refine hK _ _ ?_;clear hK K
       refine A0b fun K hK=>alF ?_
       go_step;refine(HQ2.out W3).mono ?_;rintro e w9 ⟨rfl,hw9⟩;obtain rfl:W3=w9:=Eq.symm hw9;go_simp
       first|refine⟨hSw,hK _ _ ?_⟩|refine hK _ _ ?_
       clear hK K
       iterate 3
        refine A0b fun K hK=>tkF ?_
        go_simp
        try go_bits
        refine hK _ _ ?_;clear hK K
       refine A0b fun K hK=>alF ?_
       refine wp_store_row A1f _ _ rfl (w.heap.size+2) (IN.cells (⟨r.op,0,0,cl2,[],[],[]⟩:IN)).toArray rfl rfl A1f _ HT.out.z A0n rfl (A9a (⟨r.op,0,0,cl2,[],[],[]⟩:IN)) ?_
       have hSn:SX w r (⟨r.op,0,0,cl2,[],[],[]⟩:IN) (W3.setRow (w.heap.size+2) (IN.cells (⟨r.op,0,0,cl2,[],[],[]⟩:IN)).toArray):=hSw.setrow _;refine⟨hSn,hK _ _ ?_⟩
       clear hK K hSw;refine A0m (fun y=>y=W3.setRow (w.heap.size+2) (IN.cells (⟨r.op,0,0,cl2,[],[],[]⟩:IN)).toArray) (fun y hy=>hy▸hSn) rfl ?_
       iterate 1
        refine A0i fun K hK=>tkX ?_
        go_simp
        try go_bits
        refine hK _ ?_;clear hK K
       refine A0p (fun y hy=> ?_);obtain rfl:W3.setRow (w.heap.size+2) (IN.cells (⟨r.op,0,0,cl2,[],[],[]⟩:IN)).toArray=y:=Eq.symm hy
       go_wp2_with fail
       refine bodyPost_ret (A0d rfl _ _ (w.heap.size+2) A1f (IN.cells (⟨r.op,0,0,cl2,[],[],[]⟩:IN)).toArray (0,0) _ rfl (setRow_heap _ _ _ _ _ _ HT.out.z) Tryz.underlying54 rfl A0n) rfl ?_
       exact⟨(⟨r.op,0,0,cl2,[],[],[]⟩:IN),b2,rfl,(by rw[HCC.out];rfl),(fun _=>HVV.out.symm),HT.out.done _⟩
     ·iterate 8
       refine A0b fun K hK=>skF ?_
       go_simp;refine hK _ _ ?_;clear hK K
      iterate 2
       refine A0b fun K hK=>tkF ?_
       go_simp
       try go_bits
       refine hK _ _ ?_;clear hK K
      refine A0b fun K hK=>alF ?_
      refine wp_store_row A1f _ _ rfl (w.heap.size+2) (IN.cells (⟨r.op,0,0,cl2,[],[],[]⟩:IN)).toArray rfl rfl A1f _ HT.out.z A0n rfl (A9a (⟨r.op,0,0,cl2,[],[],[]⟩:IN)) ?_
      have hSn:SX w r (⟨r.op,0,0,cl2,[],[],[]⟩:IN) (W3.setRow (w.heap.size+2) (IN.cells (⟨r.op,0,0,cl2,[],[],[]⟩:IN)).toArray):=hSw.setrow _;refine⟨hSn,hK _ _ ?_⟩;clear hK K hSw
      refine A0m (fun y=>y=W3.setRow (w.heap.size+2) (IN.cells (⟨r.op,0,0,cl2,[],[],[]⟩:IN)).toArray) (fun y hy=>hy▸hSn) rfl ?_
      iterate 1
       refine A0i fun K hK=>tkX ?_
       go_simp
       try go_bits
       refine hK _ ?_;clear hK K
      refine A0p (fun y hy=> ?_);obtain rfl:W3.setRow (w.heap.size+2) (IN.cells (⟨r.op,0,0,cl2,[],[],[]⟩:IN)).toArray=y:=Eq.symm hy
      go_wp2_with fail
      refine bodyPost_ret (A0d rfl _ _ (w.heap.size+2) A1f (IN.cells (⟨r.op,0,0,cl2,[],[],[]⟩:IN)).toArray (0,0) _ rfl (setRow_heap _ _ _ _ _ _ HT.out.z) Tryz.underlying54 rfl A0n) rfl ?_
      exact⟨(⟨r.op,0,0,cl2,[],[],[]⟩:IN),true,rfl,(by rw[HCC.out];rfl),(fun _=>HVV.out.symm),HT.out.done _⟩
end
end Go.Proofs.YtclpkipaehpkdaaGreatDoor
