/- asm -/
import Derived.Test.YtclpkipaehpkdaaGreatDoorQ18AsmLowers
set_option linter.unusedVariables false
set_option linter.unusedSimpArgs false
set_option maxRecDepth 100000
set_option maxHeartbeats 64000000
namespace Go.Proofs.YtclpkipaehpkdaaGreatDoor
section
open Go.ChangeShapes Go.WideShapes Go.ChangeAt Go.RowKit
structure NmS(w wx:World)(a:Option Addr)(n:Nat)(K:List KV)(r:RW)(x:IN):Prop where
 r:wx.heap[w.heap.size]? =some (.cells r.cells.toArray 118 (0,0))
 x:A3u (w.heap.size+1) x wx
 z:A3u (w.heap.size+2) ⟨0,0,0,[],[],[],[]⟩ wx
 k:Ks wx a n K
 b:Below w.heap.size w wx
theorem NmS.below{w wx w9:World}{a:Option Addr}{n:Nat}{K:List KV}{r:RW}{x:IN}(h:NmS w wx a n K r x)(hb:Below wx.heap.size wx w9):NmS w w9 a n K r x:=
 ⟨A0c h.r hb,h.x.below hb,h.z.below hb,h.k.below hb,h.b.trans (hb.mono h.b.size)⟩
theorem NmS.put{w wx:World}{a:Option Addr}{n:Nat}{K:List KV}{r:RW}{x x':IN}(h:NmS w wx a n K r x)(hK:Ks w a n K)(o:Nat)(v:Value)(hi:A3u (w.heap.size+1) x' (wx.setCell ⟨w.heap.size+1,o,none⟩ v)):NmS w (wx.setCell ⟨w.heap.size+1,o,none⟩ v) a n K r x':=by
 have hb:Below w.heap.size w (wx.setCell ⟨w.heap.size+1,o,none⟩ v):=h.b.setCell (show w.heap.size<=w.heap.size+1 by omega) v
 exact⟨A1d h.r (by omega) o v,hi,A1d h.z (by omega) o v,hK.below hb,hb⟩
theorem NmS.done{w wx:World}{a:Option Addr}{n:Nat}{K:List KV}{r:RW}{x:IN}(h:NmS w wx a n K r x)(cs:Array Value):Below w.heap.size w (wx.setRow (w.heap.size+2) cs):=
 (A0j.setrow (A0j.refl (fun k=>k=w.heap.size+2) wx) (.inl rfl) cs).below h.b nlz (fun k hk=>by omega)
def D9q(K:List KV)(r:RW):IN:=
 if r.op=20 then B0q K (A4b r) r.a.toNat else if A7j r.op then C8n K (A4b r) r.a 9 else if A9w r.op then C8n K (A4b r) r.a 10 else{A4b r with cl:=(A0s K r.a).1}
def D4p(K:List KV)(r:RW):Bool:=
 if r.op=20 then B1m (B0q K (A4b r) r.a.toNat)else if A7j r.op then B9b typeB K r.a 9 else if A9w r.op then B9b A3k K r.a 10 else aclsB K r.a (decide (r.op≠187))
def D2n(V:IN)(C:Bool)(w:World)(e:Ending)(w':World):Prop:=∃(x:IN) (ok:Bool),e= .returned (.tuple #[.agg x.cells.toArray,.bool ok])/\ok=C/\(ok=true->x=V)/\Below w.heap.size w w'
theorem E2j{K:List KV}{r:RW}(h20:r.op=20)(h5:(kAt K r.a.toNat).tag=5):B0q K (A4b r) r.a.toNat={A4b r with ds:=[74],n:=(kAt K r.a.toNat).n}/\B1m (B0q K (A4b r) r.a.toNat)=true:=by
 have e:B0q K (A4b r) r.a.toNat={A4b r with ds:=[74],n:=(kAt K r.a.toNat).n}:=by
  unfold B0q;rw[if_neg (by omega),if_pos h5]
 refine⟨e,?_⟩;rw[e];simp[B1m,A4b,h20]
theorem D3v{K:List KV}{r:RW}(h20:r.op=20)(h5:(kAt K r.a.toNat).tag≠5):B1m (B0q K (A4b r) r.a.toNat)=false:=by
 unfold B0q;split
 ·simp[B1m,A4b,h20]
 split
 ·simp[B1m,A4b,h20]
 simp[B1m,A4b]
def QN(s b o:Nat)(r:RW)(v:Int)(w:World):Prop:=w.heap[s]? =some (.cells r.cells.toArray 118 (0,0))/\w.cell? ⟨b,o,none⟩=some (.int .i64 v)
def SX(w:World)(r:RW)(x:IN)(y:World):Prop:=y.heap[w.heap.size]? =some (.cells r.cells.toArray 118 (0,0))/\A3u (w.heap.size+1) x y
theorem SX.below{w y y':World}{r:RW}{x:IN}(h:SX w r x y)(hb:Below y.heap.size y y'):SX w r x y':=⟨A0c h.1 hb,h.2.below hb⟩
theorem SX.setrow{w y:World}{r:RW}{x:IN}(h:SX w r x y)(cs:Array Value):SX w r x (y.setRow (w.heap.size+2) cs):=
 ⟨by rw[setRow_other _ _ _ _ (by omega)];exact h.1,by unfold A3u;rw[setRow_other _ _ _ _ (by omega)];exact h.2⟩
theorem C9d(w:World)(a:Option Addr)(n cap:Nat)(K:List KV)(r:RW)(hs:Ks w a n K)(hn:n<=65536)(htx:∀i:Int,(kAt K i).s.length<=65536)(hop:r.op<256)(hra:0<=r.a/\r.a<1048576):
  Calls Tryz.prog 117 #[.slice a n cap,.agg #[.int .i64 r.pos,.int .u8 (r.op:Nat),.int .i64 r.a,.int .i64 r.b],.agg #[.int .u8 (r.op:Nat),.int .i64 0,.int .i64 0,.string ⟨#[]⟩,.string ⟨#[]⟩,.string ⟨#[]⟩,.string ⟨#[]⟩]] w (D2n (D9q K r) (D4p K r) w):=by
 have HKS:=hzz hs;have HNN:=hzz hn;have HTX:=hzz htx
 have hb0:Below w.heap.size w (((w.alloc (.cells #[.int .i64 r.pos,.int .u8 (r.op:Nat),.int .i64 r.a,.int .i64 r.b] 118)).alloc (.cells #[.int .u8 (r.op:Nat),.int .i64 0,.int .i64 0,.string ⟨#[]⟩,.string ⟨#[]⟩,.string ⟨#[]⟩,.string ⟨#[]⟩] A1v)).alloc (.cells #[.int .u8 0,.int .i64 0,.int .i64 0,.string ⟨#[]⟩,.string ⟨#[]⟩,.string ⟨#[]⟩,.string ⟨#[]⟩] A1v)):=(((Below.refl w.heap.size w).alloc nlz _).alloc (by simp) _).alloc (by simp;omega) _
 have HS0:=hzz (show NmS w (((w.alloc (.cells #[.int .i64 r.pos,.int .u8 (r.op:Nat),.int .i64 r.a,.int .i64 r.b] 118)).alloc (.cells #[.int .u8 (r.op:Nat),.int .i64 0,.int .i64 0,.string ⟨#[]⟩,.string ⟨#[]⟩,.string ⟨#[]⟩,.string ⟨#[]⟩] A1v)).alloc (.cells #[.int .u8 0,.int .i64 0,.int .i64 0,.string ⟨#[]⟩,.string ⟨#[]⟩,.string ⟨#[]⟩,.string ⟨#[]⟩] A1v)) a n K r (A4b r)from⟨by
  rw[Below.heap_alloc _ _ _ (by simp;omega),Below.heap_alloc _ _ _ (by simp)];exact heap_alloc_last w _,by
  unfold A3u;rw[Below.heap_alloc _ _ _ (by simp)]
  have h:=heap_alloc_last (w.alloc (.cells #[.int .i64 r.pos,.int .u8 (r.op:Nat),.int .i64 r.a,.int .i64 r.b] 118)) (.cells #[.int .u8 (r.op:Nat),.int .i64 0,.int .i64 0,.string ⟨#[]⟩,.string ⟨#[]⟩,.string ⟨#[]⟩,.string ⟨#[]⟩] A1v)
  have h2:((w.alloc (.cells #[.int .i64 r.pos,.int .u8 (r.op:Nat),.int .i64 r.a,.int .i64 r.b] 118)).alloc (.cells #[.int .u8 (r.op:Nat),.int .i64 0,.int .i64 0,.string ⟨#[]⟩,.string ⟨#[]⟩,.string ⟨#[]⟩,.string ⟨#[]⟩] A1v)).heap[w.heap.size+1]? =some (.cells #[.int .u8 (r.op:Nat),.int .i64 0,.int .i64 0,.string ⟨#[]⟩,.string ⟨#[]⟩,.string ⟨#[]⟩,.string ⟨#[]⟩] A1v):=by simpa using h
  exact h2,by
  have h:=heap_alloc_last ((w.alloc (.cells #[.int .i64 r.pos,.int .u8 (r.op:Nat),.int .i64 r.a,.int .i64 r.b] 118)).alloc (.cells #[.int .u8 (r.op:Nat),.int .i64 0,.int .i64 0,.string ⟨#[]⟩,.string ⟨#[]⟩,.string ⟨#[]⟩,.string ⟨#[]⟩] A1v)) (.cells #[.int .u8 0,.int .i64 0,.int .i64 0,.string ⟨#[]⟩,.string ⟨#[]⟩,.string ⟨#[]⟩,.string ⟨#[]⟩] A1v)
  have h2:(((w.alloc (.cells #[.int .i64 r.pos,.int .u8 (r.op:Nat),.int .i64 r.a,.int .i64 r.b] 118)).alloc (.cells #[.int .u8 (r.op:Nat),.int .i64 0,.int .i64 0,.string ⟨#[]⟩,.string ⟨#[]⟩,.string ⟨#[]⟩,.string ⟨#[]⟩] A1v)).alloc (.cells #[.int .u8 0,.int .i64 0,.int .i64 0,.string ⟨#[]⟩,.string ⟨#[]⟩,.string ⟨#[]⟩,.string ⟨#[]⟩] A1v)).heap[w.heap.size+2]? =some (.cells #[.int .u8 0,.int .i64 0,.int .i64 0,.string ⟨#[]⟩,.string ⟨#[]⟩,.string ⟨#[]⟩,.string ⟨#[]⟩] A1v):=by simpa using h
  exact h2,hs.below hb0,hb0⟩)
 obtain⟨V,hV⟩:=exz (D9q K r);obtain⟨C,hC⟩:=exz (D4p K r);rw[<-hV,<-hC];have HV:=hzz hV;have HC:=hzz hC;obtain⟨ra0,ra1⟩:=hra;clear hs hn htx hb0 hV hC;go_enter Tryz.func117,Tryz.ntmps117
 go_upto_region 2 with fail
 generalize(((w.alloc (.cells #[.int .i64 r.pos,.int .u8 (r.op:Nat),.int .i64 r.a,.int .i64 r.b] 118)).alloc (.cells #[.int .u8 (r.op:Nat),.int .i64 0,.int .i64 0,.string ⟨#[]⟩,.string ⟨#[]⟩,.string ⟨#[]⟩,.string ⟨#[]⟩] A1v)).alloc (.cells #[.int .u8 0,.int .i64 0,.int .i64 0,.string ⟨#[]⟩,.string ⟨#[]⟩,.string ⟨#[]⟩,.string ⟨#[]⟩] A1v))=W at*
 obtain⟨i0,i1,i2,i3,i4,i5,i6,f1,f2,f3,f4,f5,f6⟩:=HS0.out.x.box;have r1:=A0a HS0.out.r 1 rfl;have r2:=A0a HS0.out.r 2 rfl;dsimp only[RW.cells,A4b]at r1 r2 i0 i1 i2 i3 i4 i5 i6
 by_cases o20:r.op=20
 ·have e20:((r.op:Int)==20)=true:=by rw[o20];rfl
  have HO:=hzz o20;by_cases hlt:r.a<n
  ·obtain⟨b,off,rfl,hbl,k0,k1,k2,k3,k4⟩:=HS0.out.k.at r.a.toNat (by omega);obtain⟨c,hc⟩:=exz (kAt K r.a.toNat);rw[<-hc]at k0 k1 k2 k3 k4;have HCQ:=hzz hc;by_cases h5:c.tag=5
   ·obtain⟨v1,v2⟩:=E2j o20 (show(kAt K r.a.toNat).tag=5 by rw[<-hc];exact h5);have e5:(c.tag==5)=true:=by rw[h5];rfl
    have HVV:=hzz (show V={A4b r with ds:=[74],n:=(kAt K r.a.toNat).n} by rw[HV.out];unfold D9q;rw[if_pos o20];exact v1)
    have HCC:=hzz (show C=true by rw[HC.out];unfold D4p;rw[if_pos o20];exact v2);have HH5:=hzz h5;rw[<-hc]at HVV;clear hc;have hlz:decide (r.a<(n:Int))=true:=by simp;omega
    clear o20 h5 v1 v2 HV HC
    go_upto_region 5 with fail
    have HSD:=hzz (HS0.out.below (brz.drew));have hSw:QN w.heap.size b (off+r.a.toNat*5+3) r c.n W.drew:=⟨HSD.out.r,k3⟩
    have l0:∀z,QN w.heap.size b (off+r.a.toNat*5+3) r c.n z->z.cell? ⟨w.heap.size,2,none⟩=some (.int .i64 r.a):=fun z h=>A0a h.1 2 rfl
    have l1:∀z,QN w.heap.size b (off+r.a.toNat*5+3) r c.n z->z.cell? ⟨b,off+r.a.toNat*5+3,none⟩=some (.int .i64 c.n):=fun z h=>h.2
    refine A0g (QN w.heap.size b (off+r.a.toNat*5+3) r c.n) (.of [(0,true),(1,true),(2,true),(3,true),(4,true),(5,true),(6,true),(7,false),(8,true),(9,false)] (.stir [])) (by kernel_rfl) (by kernel_rfl) (fun c a d v w h=>by cases d<;>exact h) ?_
    generalize W.drew=W1 at*
    iterate 7
     refine A0b fun K hK=>tkF ?_
     go_simp
     try go_bits
     refine hK _ _ ?_;clear hK K
    obtain⟨i0,i1,i2,i3,i4,i5,i6,f1,f2,f3,f4,f5,f6⟩:=HSD.out.x.box;refine A0b fun K hK=>alF ?_
    go_step;have HS1:=hzz (HSD.out.put HKS.out 5 _ (HSD.out.x.set5 [74]))
    have hk1:A0j (fun k=>k=w.heap.size+1) W1 (W1.setCell ⟨w.heap.size+1,5,none⟩ (.string ⟨#[74]⟩)):=A0j.set (A0j.refl (fun k=>k=w.heap.size+1) W1) (.inl rfl) 5 _
    have hSn:QN w.heap.size b (off+r.a.toNat*5+3) r c.n (W1.setCell ⟨w.heap.size+1,5,none⟩ (.string ⟨#[74]⟩)):=⟨HS1.out.r,by
     obtain⟨b2,off2,e,_,_,_,_,q3,_⟩:=HS1.out.k.at r.a.toNat (by omega)
     cases e
     rw[<-HCQ.out]at q3;exact q3⟩
    refine⟨hSn,hK _ _ ?_⟩;clear hK K hSw i0 i1 i2 i3 i4 i5 i6 f1 f2 f3 f4 f5 f6 hk1;have hSw:=hSn;clear hSn
    iterate 1
     refine A0b fun K hK=>tkF ?_
     go_simp
     try go_bits
     refine hK _ _ ?_;clear hK K
    obtain⟨i0,i1,i2,i3,i4,i5,i6,f1,f2,f3,f4,f5,f6⟩:=HS1.out.x.box;dsimp only[A4b]at i0 i1 i2 i3 i4 i5 i6;refine A0b fun K hK=>alF ?_
    go_step;have HS2:=hzz (HS1.out.put HKS.out 1 _ (HS1.out.x.set1 c.n))
    have hSn:QN w.heap.size b (off+r.a.toNat*5+3) r c.n ((W1.setCell ⟨w.heap.size+1,5,none⟩ (.string ⟨#[74]⟩)).setCell ⟨w.heap.size+1,1,none⟩ (.int .i64 c.n)):=⟨HS2.out.r,by
     obtain⟨b2,off2,e,_,_,_,_,q3,_⟩:=HS2.out.k.at r.a.toNat (by omega)
     cases e
     rw[<-HCQ.out]at q3;exact q3⟩
    refine⟨hSn,hK _ _ ?_⟩;clear hK K hSw i0 i1 i2 i3 i4 i5 i6 f1 f2 f3 f4 f5 f6
    generalize(W1.setCell ⟨w.heap.size+1,5,none⟩ (.string ⟨#[74]⟩)).setCell ⟨w.heap.size+1,1,none⟩ (.int .i64 c.n)=W2 at*;refine A0k (fun y=>y=W2) (fun y hy=>hy▸hSn) rfl ?_
    refine A0n (fun y hy=> ?_);obtain rfl:W2=y:=Eq.symm hy;clear hSn l0 l1
    go_upto_region 6 with fail
    refine wp_region_lit ?_;refine A0i rfl _ _ rfl _ rfl _ _ _ _ HS2.out.x Tryz.underlying54 rfl A0p ?_
    refine wpList_store_row rfl _ _ _ rfl _ _ rfl rfl _ _ HS2.out.z A0p rfl (A9f _) ?_
    go_wp2_with fail
    refine bodyPost_ret (A0d rfl _ _ (w.heap.size+2) A1v (IN.cells _).toArray (0,0) _ rfl (setRow_heap _ _ _ _ _ _ HS2.out.z) Tryz.underlying54 rfl A0p) rfl ?_
    exact⟨_,_,rfl,HCC.out.symm,fun _=>HVV.out.symm,HS2.out.done _⟩
   have v2:=D3v o20 (show(kAt K r.a.toNat).tag≠5 by rw[<-hc];exact h5);have e5:(c.tag==5)=false:=by rw[beq_eq_false_iff_ne];exact h5
   have HCC:=hzz (show C=false by rw[HC.out];unfold D4p;rw[if_pos o20];exact v2);have hlz:decide (r.a<(n:Int))=true:=by simp;omega
   clear hc o20 h5 v2 HV HC
   go_upto_region 7 with fail
   refine wp_region_lit ?_;refine A0i rfl _ _ rfl _ rfl _ _ _ _ HS0.out.x Tryz.underlying54 rfl A0p ?_;refine wpList_store_row rfl _ _ _ rfl _ _ rfl rfl _ _ HS0.out.z A0p rfl (A9f _) ?_
   go_wp2_with fail
   refine bodyPost_ret (A0d rfl _ _ (w.heap.size+2) A1v (IN.cells _).toArray (0,0) _ rfl (setRow_heap _ _ _ _ _ _ HS0.out.z) Tryz.underlying54 rfl A0p) rfl ?_
   exact⟨_,_,rfl,HCC.out.symm,(fun h=>absurd h (by decide)),HS0.out.done _⟩
  have h5:(kAt K r.a.toNat).tag≠5:=by
   unfold kAt;have hl:=HKS.out.1;rw[List.getD_eq_getElem?_getD,List.getElem?_eq_none (by omega)];simp[kz]
  have v2:=D3v o20 h5;have HCC:=hzz (show C=false by rw[HC.out];unfold D4p;rw[if_pos o20];exact v2);have hlz:decide (r.a<(n:Int))=false:=by simp;omega
  clear o20 h5 v2 HV HC
  go_upto_region 7 with fail
  refine wp_region_lit ?_;refine A0i rfl _ _ rfl _ rfl _ _ _ _ HS0.out.x Tryz.underlying54 rfl A0p ?_;refine wpList_store_row rfl _ _ _ rfl _ _ rfl rfl _ _ HS0.out.z A0p rfl (A9f _) ?_
  go_wp2_with fail
  refine bodyPost_ret (A0d rfl _ _ (w.heap.size+2) A1v (IN.cells _).toArray (0,0) _ rfl (setRow_heap _ _ _ _ _ _ HS0.out.z) Tryz.underlying54 rfl A0p) rfl ?_
  exact⟨_,_,rfl,HCC.out.symm,(fun h=>absurd h (by decide)),HS0.out.done _⟩
 have e20:((r.op:Int)==20)=false:=by rw[beq_eq_false_iff_ne];omega
 by_cases hm:A7j r.op=true
 ·have hor:r.op=178\/r.op=179\/r.op=180\/r.op=181:=by simpa[A7j]using hm
  have HVV:=hzz (show V=C8n K (A4b r) r.a 9 by rw[HV.out];unfold D9q;rw[if_neg o20,if_pos hm]);have HCC:=hzz (show C=B9b typeB K r.a 9 by rw[HC.out];unfold D4p;rw[if_neg o20,if_pos hm])
  have HM:=hzz (B1t W a n cap K r.a 9 HS0.out.k HNN.out);have HLN:=hzz (A9u HTX.out r.a 9);unfold A1s at HM;unfold C8n at HVV;unfold B9b at HCC
  obtain⟨M,hM⟩:=exz (A1j K r.a 9);rw[<-hM]at HM HLN HVV HCC;dsimp only[A4b]at HVV;clear hM HV HC o20
  rcases hor with o|o|o|o
  all_goals
   have HO:=hzz o
   first|have e178:((r.op:Int)==178)=true:=(by rw[o];rfl)|have e178:((r.op:Int)==178)=false:=(by rw[o];rfl)
   first|have e179:((r.op:Int)==179)=true:=(by rw[o];rfl)|have e179:((r.op:Int)==179)=false:=(by rw[o];rfl)
   first|have e180:((r.op:Int)==180)=true:=(by rw[o];rfl)|have e180:((r.op:Int)==180)=false:=(by rw[o];rfl)
   first|have e181:((r.op:Int)==181)=true:=(by rw[o];rfl)|have e181:((r.op:Int)==181)=false:=(by rw[o];rfl)
   first|have e182:((r.op:Int)==182)=true:=(by rw[o];rfl)|have e182:((r.op:Int)==182)=false:=(by rw[o];rfl)
   first|have e184:((r.op:Int)==184)=true:=(by rw[o];rfl)|have e184:((r.op:Int)==184)=false:=(by rw[o];rfl)
   clear o hm;obtain⟨cl2,nm2,ds2,b0⟩:=M;dsimp only at HM HLN HVV HCC;obtain⟨n1,n2,n3⟩:=HLN.out;have HQ1:=hzz (fun W=>A2y W cl2 (by omega))
   have HQ2:=hzz (fun W=>A9b W nm2 n2);have HQ3:=hzz (fun W=>A7p W ds2 n3);clear n1 n2 n3;generalize classB cl2=b1 at*;generalize A7d nm2=b2 at*;generalize typeB ds2=b3 at*
   go_upto_region 12 with fail
   go_wp2_with fail
   refine HM.out.mono ?_;rintro e w1 ⟨rfl,hb1⟩;have HS1:=hzz (HS0.out.below hb1);clear hb1 i0 i1 i2 i3 i4 i5 i6 f1 f2 f3 f4 f5 f6 r1 r2 HS0 HM
   obtain⟨i0,i1,i2,i3,i4,i5,i6,f1,f2,f3,f4,f5,f6⟩:=HS1.out.x.box;dsimp only[A4b]at i0 i1 i2 i3 i4 i5 i6
   go_upto_region 13 with fail
   have HS2:=hzz (HS1.out.put HKS.out 3 _ (HS1.out.x.set3 cl2));have HS3:=hzz (HS2.out.put HKS.out 4 _ (HS2.out.x.set4 nm2));have HS4:=hzz (HS3.out.put HKS.out 5 _ (HS3.out.x.set5 ds2))
   clear HS1 HS2 HS3 i0 i1 i2 i3 i4 i5 i6 f1 f2 f3 f4 f5 f6;dsimp only[A4b]at HS4
   generalize((w1.setCell ⟨w.heap.size+1,3,none⟩ (.string ⟨cl2.toArray⟩)).setCell ⟨w.heap.size+1,4,none⟩ (.string ⟨nm2.toArray⟩)).setCell ⟨w.heap.size+1,5,none⟩ (.string ⟨ds2.toArray⟩)=W2 at*
   have HT:=hzz (HS4.out.below (brz.drew));have hSw:SX w r (⟨r.op,0,0,cl2,nm2,ds2,[]⟩:IN) W2.drew:=⟨HT.out.r,HT.out.x⟩
   have l0:∀z,SX w r (⟨r.op,0,0,cl2,nm2,ds2,[]⟩:IN) z->z.cell? ⟨w.heap.size+1,0,none⟩=some (.int .u8 (r.op:Nat)):=fun z h=>h.2.box.c0
   have l1:∀z,SX w r (⟨r.op,0,0,cl2,nm2,ds2,[]⟩:IN) z->z.cell? ⟨w.heap.size+1,1,none⟩=some (.int .i64 0):=fun z h=>h.2.box.c1
   have l2:∀z,SX w r (⟨r.op,0,0,cl2,nm2,ds2,[]⟩:IN) z->z.cell? ⟨w.heap.size+1,2,none⟩=some (.int .i64 0):=fun z h=>h.2.box.c2
   have l3:∀z,SX w r (⟨r.op,0,0,cl2,nm2,ds2,[]⟩:IN) z->z.cell? ⟨w.heap.size+1,3,none⟩=some (.string ⟨cl2.toArray⟩):=fun z h=>h.2.box.c3
   have l4:∀z,SX w r (⟨r.op,0,0,cl2,nm2,ds2,[]⟩:IN) z->z.cell? ⟨w.heap.size+1,4,none⟩=some (.string ⟨nm2.toArray⟩):=fun z h=>h.2.box.c4
   have l5:∀z,SX w r (⟨r.op,0,0,cl2,nm2,ds2,[]⟩:IN) z->z.cell? ⟨w.heap.size+1,5,none⟩=some (.string ⟨ds2.toArray⟩):=fun z h=>h.2.box.c5
   have l6:∀z,SX w r (⟨r.op,0,0,cl2,nm2,ds2,[]⟩:IN) z->z.cell? ⟨w.heap.size+1,6,none⟩=some (.string ⟨#[]⟩):=fun z h=>h.2.box.c6
   refine A0g (SX w r (⟨r.op,0,0,cl2,nm2,ds2,[]⟩:IN)) (.of [(0,true),(1,true),(2,true),(3,true),(4,true),(5,false),(6,true),(7,true),(8,true),(9,true),(10,false),(11,true),(12,true),(13,true),(14,true),(15,false),(16,true),(17,false)] (.stir [(18,true)])) (by kernel_rfl) (by kernel_rfl) (fun c a d v w h=>by cases d<;>exact h) ?_
   clear HS4;generalize W2.drew=W3 at*
   iterate 3
    refine A0b fun K hK=>tkF ?_
    go_simp
    try go_bits
    refine hK _ _ ?_;clear hK K
   cases b0
   ·iterate 3
     refine A0b fun K hK=>skF ?_
     go_simp;refine hK _ _ ?_;clear hK K
    iterate 2
     refine A0b fun K hK=>tkF ?_
     go_simp
     try go_bits
     refine hK _ _ ?_;clear hK K
    iterate 3
     refine A0b fun K hK=>skF ?_
     go_simp;refine hK _ _ ?_;clear hK K
    iterate 2
     refine A0b fun K hK=>tkF ?_
     go_simp
     try go_bits
     refine hK _ _ ?_;clear hK K
    iterate 3
     refine A0b fun K hK=>skF ?_
     go_simp;refine hK _ _ ?_;clear hK K
    iterate 1
     refine A0b fun K hK=>tkF ?_
     go_simp
     try go_bits
     refine hK _ _ ?_;clear hK K
    refine A0b fun K hK=>alF ?_
    refine wp_store_row A1v _ _ rfl (w.heap.size+2) (IN.cells (⟨r.op,0,0,cl2,nm2,ds2,[]⟩:IN)).toArray rfl rfl A1v _ HT.out.z A0p rfl (A9f (⟨r.op,0,0,cl2,nm2,ds2,[]⟩:IN)) ?_
    have hSn:SX w r (⟨r.op,0,0,cl2,nm2,ds2,[]⟩:IN) (W3.setRow (w.heap.size+2) (IN.cells (⟨r.op,0,0,cl2,nm2,ds2,[]⟩:IN)).toArray):=hSw.setrow _;refine⟨hSn,hK _ _ ?_⟩;clear hK K hSw
    refine A0k (fun y=>y=W3.setRow (w.heap.size+2) (IN.cells (⟨r.op,0,0,cl2,nm2,ds2,[]⟩:IN)).toArray) (fun y hy=>hy▸hSn) rfl ?_
    iterate 1
     refine A0h fun K hK=>tkX ?_
     go_simp
     try go_bits
     refine hK _ ?_;clear hK K
    refine A0n (fun y hy=> ?_);obtain rfl:W3.setRow (w.heap.size+2) (IN.cells (⟨r.op,0,0,cl2,nm2,ds2,[]⟩:IN)).toArray=y:=Eq.symm hy
    go_wp2_with fail
    refine bodyPost_ret (A0d rfl _ _ (w.heap.size+2) A1v (IN.cells (⟨r.op,0,0,cl2,nm2,ds2,[]⟩:IN)).toArray (0,0) _ rfl (setRow_heap _ _ _ _ _ _ HT.out.z) Tryz.underlying54 rfl A0p) rfl ?_
    exact⟨(⟨r.op,0,0,cl2,nm2,ds2,[]⟩:IN),false,rfl,(by rw[HCC.out];rfl),(fun _=>HVV.out.symm),HT.out.done _⟩
   ·iterate 2
     refine A0b fun K hK=>tkF ?_
     go_simp
     try go_bits
     refine hK _ _ ?_;clear hK K
    refine A0b fun K hK=>alF ?_
    go_step;refine(HQ1.out W3).mono ?_;rintro e w9 ⟨rfl,hw9⟩;obtain rfl:W3=w9:=Eq.symm hw9;go_simp
    first|refine⟨hSw,hK _ _ ?_⟩|refine hK _ _ ?_
    clear hK K
    iterate 2
     refine A0b fun K hK=>tkF ?_
     go_simp
     try go_bits
     refine hK _ _ ?_;clear hK K
    cases b1
    ·iterate 3
      refine A0b fun K hK=>skF ?_
      go_simp;refine hK _ _ ?_;clear hK K
     iterate 2
      refine A0b fun K hK=>tkF ?_
      go_simp
      try go_bits
      refine hK _ _ ?_;clear hK K
     iterate 3
      refine A0b fun K hK=>skF ?_
      go_simp;refine hK _ _ ?_;clear hK K
     iterate 1
      refine A0b fun K hK=>tkF ?_
      go_simp
      try go_bits
      refine hK _ _ ?_;clear hK K
     refine A0b fun K hK=>alF ?_
     refine wp_store_row A1v _ _ rfl (w.heap.size+2) (IN.cells (⟨r.op,0,0,cl2,nm2,ds2,[]⟩:IN)).toArray rfl rfl A1v _ HT.out.z A0p rfl (A9f (⟨r.op,0,0,cl2,nm2,ds2,[]⟩:IN)) ?_
     have hSn:SX w r (⟨r.op,0,0,cl2,nm2,ds2,[]⟩:IN) (W3.setRow (w.heap.size+2) (IN.cells (⟨r.op,0,0,cl2,nm2,ds2,[]⟩:IN)).toArray):=hSw.setrow _;refine⟨hSn,hK _ _ ?_⟩;clear hK K hSw
     refine A0k (fun y=>y=W3.setRow (w.heap.size+2) (IN.cells (⟨r.op,0,0,cl2,nm2,ds2,[]⟩:IN)).toArray) (fun y hy=>hy▸hSn) rfl ?_
     iterate 1
      refine A0h fun K hK=>tkX ?_
      go_simp
      try go_bits
      refine hK _ ?_;clear hK K
     refine A0n (fun y hy=> ?_);obtain rfl:W3.setRow (w.heap.size+2) (IN.cells (⟨r.op,0,0,cl2,nm2,ds2,[]⟩:IN)).toArray=y:=Eq.symm hy
     go_wp2_with fail
     refine bodyPost_ret (A0d rfl _ _ (w.heap.size+2) A1v (IN.cells (⟨r.op,0,0,cl2,nm2,ds2,[]⟩:IN)).toArray (0,0) _ rfl (setRow_heap _ _ _ _ _ _ HT.out.z) Tryz.underlying54 rfl A0p) rfl ?_
     exact⟨(⟨r.op,0,0,cl2,nm2,ds2,[]⟩:IN),false,rfl,(by rw[HCC.out];rfl),(fun _=>HVV.out.symm),HT.out.done _⟩
    iterate 2
     refine A0b fun K hK=>tkF ?_
     go_simp
     try go_bits
     refine hK _ _ ?_;clear hK K
    refine A0b fun K hK=>alF ?_
    go_step;refine(HQ2.out W3).mono ?_;rintro e w9 ⟨rfl,hw9⟩;obtain rfl:W3=w9:=Eq.symm hw9;go_simp
    first|refine⟨hSw,hK _ _ ?_⟩|refine hK _ _ ?_
    clear hK K
    iterate 2
     refine A0b fun K hK=>tkF ?_
     go_simp
     try go_bits
     refine hK _ _ ?_;clear hK K
    cases b2
    ·iterate 3
      refine A0b fun K hK=>skF ?_
      go_simp;refine hK _ _ ?_;clear hK K
     iterate 1
      refine A0b fun K hK=>tkF ?_
      go_simp
      try go_bits
      refine hK _ _ ?_;clear hK K
     refine A0b fun K hK=>alF ?_
     refine wp_store_row A1v _ _ rfl (w.heap.size+2) (IN.cells (⟨r.op,0,0,cl2,nm2,ds2,[]⟩:IN)).toArray rfl rfl A1v _ HT.out.z A0p rfl (A9f (⟨r.op,0,0,cl2,nm2,ds2,[]⟩:IN)) ?_
     have hSn:SX w r (⟨r.op,0,0,cl2,nm2,ds2,[]⟩:IN) (W3.setRow (w.heap.size+2) (IN.cells (⟨r.op,0,0,cl2,nm2,ds2,[]⟩:IN)).toArray):=hSw.setrow _;refine⟨hSn,hK _ _ ?_⟩;clear hK K hSw
     refine A0k (fun y=>y=W3.setRow (w.heap.size+2) (IN.cells (⟨r.op,0,0,cl2,nm2,ds2,[]⟩:IN)).toArray) (fun y hy=>hy▸hSn) rfl ?_
     iterate 1
      refine A0h fun K hK=>tkX ?_
      go_simp
      try go_bits
      refine hK _ ?_;clear hK K
     refine A0n (fun y hy=> ?_);obtain rfl:W3.setRow (w.heap.size+2) (IN.cells (⟨r.op,0,0,cl2,nm2,ds2,[]⟩:IN)).toArray=y:=Eq.symm hy
     go_wp2_with fail
     refine bodyPost_ret (A0d rfl _ _ (w.heap.size+2) A1v (IN.cells (⟨r.op,0,0,cl2,nm2,ds2,[]⟩:IN)).toArray (0,0) _ rfl (setRow_heap _ _ _ _ _ _ HT.out.z) Tryz.underlying54 rfl A0p) rfl ?_
     exact⟨(⟨r.op,0,0,cl2,nm2,ds2,[]⟩:IN),false,rfl,(by rw[HCC.out];rfl),(fun _=>HVV.out.symm),HT.out.done _⟩
    iterate 2
     refine A0b fun K hK=>tkF ?_
     go_simp
     try go_bits
     refine hK _ _ ?_;clear hK K
    refine A0b fun K hK=>alF ?_
    go_step;refine(HQ3.out W3).mono ?_;rintro e w9 ⟨rfl,hw9⟩;obtain rfl:W3=w9:=Eq.symm hw9;go_simp
    first|refine⟨hSw,hK _ _ ?_⟩|refine hK _ _ ?_
    clear hK K
    iterate 1
     refine A0b fun K hK=>tkF ?_
     go_simp
     try go_bits
     refine hK _ _ ?_;clear hK K
    refine A0b fun K hK=>alF ?_
    refine wp_store_row A1v _ _ rfl (w.heap.size+2) (IN.cells (⟨r.op,0,0,cl2,nm2,ds2,[]⟩:IN)).toArray rfl rfl A1v _ HT.out.z A0p rfl (A9f (⟨r.op,0,0,cl2,nm2,ds2,[]⟩:IN)) ?_
    have hSn:SX w r (⟨r.op,0,0,cl2,nm2,ds2,[]⟩:IN) (W3.setRow (w.heap.size+2) (IN.cells (⟨r.op,0,0,cl2,nm2,ds2,[]⟩:IN)).toArray):=hSw.setrow _;refine⟨hSn,hK _ _ ?_⟩;clear hK K hSw
    refine A0k (fun y=>y=W3.setRow (w.heap.size+2) (IN.cells (⟨r.op,0,0,cl2,nm2,ds2,[]⟩:IN)).toArray) (fun y hy=>hy▸hSn) rfl ?_
    iterate 1
     refine A0h fun K hK=>tkX ?_
     go_simp
     try go_bits
     refine hK _ ?_;clear hK K
    refine A0n (fun y hy=> ?_);obtain rfl:W3.setRow (w.heap.size+2) (IN.cells (⟨r.op,0,0,cl2,nm2,ds2,[]⟩:IN)).toArray=y:=Eq.symm hy
    go_wp2_with fail
    refine bodyPost_ret (A0d rfl _ _ (w.heap.size+2) A1v (IN.cells (⟨r.op,0,0,cl2,nm2,ds2,[]⟩:IN)).toArray (0,0) _ rfl (setRow_heap _ _ _ _ _ _ HT.out.z) Tryz.underlying54 rfl A0p) rfl ?_
    exact⟨(⟨r.op,0,0,cl2,nm2,ds2,[]⟩:IN),b3,rfl,(by rw[HCC.out];rfl),(fun _=>HVV.out.symm),HT.out.done _⟩
 by_cases hv:A9w r.op=true
 ·have hor:r.op=182\/r.op=184:=by simpa[A9w]using hv
  have hm':=hm;have HVV:=hzz (show V=C8n K (A4b r) r.a 10 by rw[HV.out];unfold D9q;rw[if_neg o20,if_neg hm,if_pos hv])
  have HCC:=hzz (show C=B9b A3k K r.a 10 by rw[HC.out];unfold D4p;rw[if_neg o20,if_neg hm,if_pos hv]);have HM:=hzz (B1t W a n cap K r.a 10 HS0.out.k HNN.out)
  have HLN:=hzz (A9u HTX.out r.a 10);unfold A1s at HM;unfold C8n at HVV;unfold B9b at HCC;obtain⟨M,hM⟩:=exz (A1j K r.a 10);rw[<-hM]at HM HLN HVV HCC;dsimp only[A4b]at HVV
  clear hM HV HC o20
  rcases hor with o|o
  all_goals
   have HO:=hzz o
   first|have e178:((r.op:Int)==178)=true:=(by rw[o];rfl)|have e178:((r.op:Int)==178)=false:=(by rw[o];rfl)
   first|have e179:((r.op:Int)==179)=true:=(by rw[o];rfl)|have e179:((r.op:Int)==179)=false:=(by rw[o];rfl)
   first|have e180:((r.op:Int)==180)=true:=(by rw[o];rfl)|have e180:((r.op:Int)==180)=false:=(by rw[o];rfl)
   first|have e181:((r.op:Int)==181)=true:=(by rw[o];rfl)|have e181:((r.op:Int)==181)=false:=(by rw[o];rfl)
   first|have e182:((r.op:Int)==182)=true:=(by rw[o];rfl)|have e182:((r.op:Int)==182)=false:=(by rw[o];rfl)
   first|have e184:((r.op:Int)==184)=true:=(by rw[o];rfl)|have e184:((r.op:Int)==184)=false:=(by rw[o];rfl)
   clear o hm;obtain⟨cl2,nm2,ds2,b0⟩:=M;dsimp only at HM HLN HVV HCC;obtain⟨n1,n2,n3⟩:=HLN.out;have HQ1:=hzz (fun W=>A2y W cl2 (by omega))
   have HQ2:=hzz (fun W=>A9b W nm2 n2);have HQ3:=hzz (fun W=>B1z W ds2 n3);clear n1 n2 n3;generalize classB cl2=b1 at*;generalize A7d nm2=b2 at*
   generalize A3k ds2=b3 at*
   go_upto_region 16 with fail
   go_wp2_with fail
   refine HM.out.mono ?_;rintro e w1 ⟨rfl,hb1⟩;have HS1:=hzz (HS0.out.below hb1);clear hb1 i0 i1 i2 i3 i4 i5 i6 f1 f2 f3 f4 f5 f6 r1 r2 HS0 HM
   obtain⟨i0,i1,i2,i3,i4,i5,i6,f1,f2,f3,f4,f5,f6⟩:=HS1.out.x.box;dsimp only[A4b]at i0 i1 i2 i3 i4 i5 i6
   go_upto_region 17 with fail
   have HS2:=hzz (HS1.out.put HKS.out 3 _ (HS1.out.x.set3 cl2));have HS3:=hzz (HS2.out.put HKS.out 4 _ (HS2.out.x.set4 nm2));have HS4:=hzz (HS3.out.put HKS.out 5 _ (HS3.out.x.set5 ds2))
   clear HS1 HS2 HS3 i0 i1 i2 i3 i4 i5 i6 f1 f2 f3 f4 f5 f6;dsimp only[A4b]at HS4
   generalize((w1.setCell ⟨w.heap.size+1,3,none⟩ (.string ⟨cl2.toArray⟩)).setCell ⟨w.heap.size+1,4,none⟩ (.string ⟨nm2.toArray⟩)).setCell ⟨w.heap.size+1,5,none⟩ (.string ⟨ds2.toArray⟩)=W2 at*
   have HT:=hzz (HS4.out.below (brz.drew));have hSw:SX w r (⟨r.op,0,0,cl2,nm2,ds2,[]⟩:IN) W2.drew:=⟨HT.out.r,HT.out.x⟩
   have l0:∀z,SX w r (⟨r.op,0,0,cl2,nm2,ds2,[]⟩:IN) z->z.cell? ⟨w.heap.size+1,0,none⟩=some (.int .u8 (r.op:Nat)):=fun z h=>h.2.box.c0
   have l1:∀z,SX w r (⟨r.op,0,0,cl2,nm2,ds2,[]⟩:IN) z->z.cell? ⟨w.heap.size+1,1,none⟩=some (.int .i64 0):=fun z h=>h.2.box.c1
   have l2:∀z,SX w r (⟨r.op,0,0,cl2,nm2,ds2,[]⟩:IN) z->z.cell? ⟨w.heap.size+1,2,none⟩=some (.int .i64 0):=fun z h=>h.2.box.c2
   have l3:∀z,SX w r (⟨r.op,0,0,cl2,nm2,ds2,[]⟩:IN) z->z.cell? ⟨w.heap.size+1,3,none⟩=some (.string ⟨cl2.toArray⟩):=fun z h=>h.2.box.c3
   have l4:∀z,SX w r (⟨r.op,0,0,cl2,nm2,ds2,[]⟩:IN) z->z.cell? ⟨w.heap.size+1,4,none⟩=some (.string ⟨nm2.toArray⟩):=fun z h=>h.2.box.c4
   have l5:∀z,SX w r (⟨r.op,0,0,cl2,nm2,ds2,[]⟩:IN) z->z.cell? ⟨w.heap.size+1,5,none⟩=some (.string ⟨ds2.toArray⟩):=fun z h=>h.2.box.c5
   have l6:∀z,SX w r (⟨r.op,0,0,cl2,nm2,ds2,[]⟩:IN) z->z.cell? ⟨w.heap.size+1,6,none⟩=some (.string ⟨#[]⟩):=fun z h=>h.2.box.c6
   refine A0g (SX w r (⟨r.op,0,0,cl2,nm2,ds2,[]⟩:IN)) (.of [(0,true),(1,true),(2,true),(3,true),(4,true),(5,false),(6,true),(7,true),(8,true),(9,true),(10,false),(11,true),(12,true),(13,true),(14,true),(15,false),(16,true),(17,false)] (.stir [(18,true)])) (by kernel_rfl) (by kernel_rfl) (fun c a d v w h=>by cases d<;>exact h) ?_
   clear HS4;generalize W2.drew=W3 at*
   iterate 3
    refine A0b fun K hK=>tkF ?_
    go_simp
    try go_bits
    refine hK _ _ ?_;clear hK K
   cases b0
   ·iterate 3
     refine A0b fun K hK=>skF ?_
     go_simp;refine hK _ _ ?_;clear hK K
    iterate 2
     refine A0b fun K hK=>tkF ?_
     go_simp
     try go_bits
     refine hK _ _ ?_;clear hK K
    iterate 3
     refine A0b fun K hK=>skF ?_
     go_simp;refine hK _ _ ?_;clear hK K
    iterate 2
     refine A0b fun K hK=>tkF ?_
     go_simp
     try go_bits
     refine hK _ _ ?_;clear hK K
    iterate 3
     refine A0b fun K hK=>skF ?_
     go_simp;refine hK _ _ ?_;clear hK K
    iterate 1
     refine A0b fun K hK=>tkF ?_
     go_simp
     try go_bits
     refine hK _ _ ?_;clear hK K
    refine A0b fun K hK=>alF ?_
    refine wp_store_row A1v _ _ rfl (w.heap.size+2) (IN.cells (⟨r.op,0,0,cl2,nm2,ds2,[]⟩:IN)).toArray rfl rfl A1v _ HT.out.z A0p rfl (A9f (⟨r.op,0,0,cl2,nm2,ds2,[]⟩:IN)) ?_
    have hSn:SX w r (⟨r.op,0,0,cl2,nm2,ds2,[]⟩:IN) (W3.setRow (w.heap.size+2) (IN.cells (⟨r.op,0,0,cl2,nm2,ds2,[]⟩:IN)).toArray):=hSw.setrow _;refine⟨hSn,hK _ _ ?_⟩;clear hK K hSw
    refine A0k (fun y=>y=W3.setRow (w.heap.size+2) (IN.cells (⟨r.op,0,0,cl2,nm2,ds2,[]⟩:IN)).toArray) (fun y hy=>hy▸hSn) rfl ?_
    iterate 1
     refine A0h fun K hK=>tkX ?_
     go_simp
     try go_bits
     refine hK _ ?_;clear hK K
    refine A0n (fun y hy=> ?_);obtain rfl:W3.setRow (w.heap.size+2) (IN.cells (⟨r.op,0,0,cl2,nm2,ds2,[]⟩:IN)).toArray=y:=Eq.symm hy
    go_wp2_with fail
    refine bodyPost_ret (A0d rfl _ _ (w.heap.size+2) A1v (IN.cells (⟨r.op,0,0,cl2,nm2,ds2,[]⟩:IN)).toArray (0,0) _ rfl (setRow_heap _ _ _ _ _ _ HT.out.z) Tryz.underlying54 rfl A0p) rfl ?_
    exact⟨(⟨r.op,0,0,cl2,nm2,ds2,[]⟩:IN),false,rfl,(by rw[HCC.out];rfl),(fun _=>HVV.out.symm),HT.out.done _⟩
   ·iterate 2
     refine A0b fun K hK=>tkF ?_
     go_simp
     try go_bits
     refine hK _ _ ?_;clear hK K
    refine A0b fun K hK=>alF ?_
    go_step;refine(HQ1.out W3).mono ?_;rintro e w9 ⟨rfl,hw9⟩;obtain rfl:W3=w9:=Eq.symm hw9;go_simp
    first|refine⟨hSw,hK _ _ ?_⟩|refine hK _ _ ?_
    clear hK K
    iterate 2
     refine A0b fun K hK=>tkF ?_
     go_simp
     try go_bits
     refine hK _ _ ?_;clear hK K
    cases b1
    ·iterate 3
      refine A0b fun K hK=>skF ?_
      go_simp;refine hK _ _ ?_;clear hK K
     iterate 2
      refine A0b fun K hK=>tkF ?_
      go_simp
      try go_bits
      refine hK _ _ ?_;clear hK K
     iterate 3
      refine A0b fun K hK=>skF ?_
      go_simp;refine hK _ _ ?_;clear hK K
     iterate 1
      refine A0b fun K hK=>tkF ?_
      go_simp
      try go_bits
      refine hK _ _ ?_;clear hK K
     refine A0b fun K hK=>alF ?_
     refine wp_store_row A1v _ _ rfl (w.heap.size+2) (IN.cells (⟨r.op,0,0,cl2,nm2,ds2,[]⟩:IN)).toArray rfl rfl A1v _ HT.out.z A0p rfl (A9f (⟨r.op,0,0,cl2,nm2,ds2,[]⟩:IN)) ?_
     have hSn:SX w r (⟨r.op,0,0,cl2,nm2,ds2,[]⟩:IN) (W3.setRow (w.heap.size+2) (IN.cells (⟨r.op,0,0,cl2,nm2,ds2,[]⟩:IN)).toArray):=hSw.setrow _;refine⟨hSn,hK _ _ ?_⟩;clear hK K hSw
     refine A0k (fun y=>y=W3.setRow (w.heap.size+2) (IN.cells (⟨r.op,0,0,cl2,nm2,ds2,[]⟩:IN)).toArray) (fun y hy=>hy▸hSn) rfl ?_
     iterate 1
      refine A0h fun K hK=>tkX ?_
      go_simp
      try go_bits
      refine hK _ ?_;clear hK K
     refine A0n (fun y hy=> ?_);obtain rfl:W3.setRow (w.heap.size+2) (IN.cells (⟨r.op,0,0,cl2,nm2,ds2,[]⟩:IN)).toArray=y:=Eq.symm hy
     go_wp2_with fail
     refine bodyPost_ret (A0d rfl _ _ (w.heap.size+2) A1v (IN.cells (⟨r.op,0,0,cl2,nm2,ds2,[]⟩:IN)).toArray (0,0) _ rfl (setRow_heap _ _ _ _ _ _ HT.out.z) Tryz.underlying54 rfl A0p) rfl ?_
     exact⟨(⟨r.op,0,0,cl2,nm2,ds2,[]⟩:IN),false,rfl,(by rw[HCC.out];rfl),(fun _=>HVV.out.symm),HT.out.done _⟩
    iterate 2
     refine A0b fun K hK=>tkF ?_
     go_simp
     try go_bits
     refine hK _ _ ?_;clear hK K
    refine A0b fun K hK=>alF ?_
    go_step;refine(HQ2.out W3).mono ?_;rintro e w9 ⟨rfl,hw9⟩;obtain rfl:W3=w9:=Eq.symm hw9;go_simp
    first|refine⟨hSw,hK _ _ ?_⟩|refine hK _ _ ?_
    clear hK K
    iterate 2
     refine A0b fun K hK=>tkF ?_
     go_simp
     try go_bits
     refine hK _ _ ?_;clear hK K
    cases b2
    ·iterate 3
      refine A0b fun K hK=>skF ?_
      go_simp;refine hK _ _ ?_;clear hK K
     iterate 1
      refine A0b fun K hK=>tkF ?_
      go_simp
      try go_bits
      refine hK _ _ ?_;clear hK K
     refine A0b fun K hK=>alF ?_
     refine wp_store_row A1v _ _ rfl (w.heap.size+2) (IN.cells (⟨r.op,0,0,cl2,nm2,ds2,[]⟩:IN)).toArray rfl rfl A1v _ HT.out.z A0p rfl (A9f (⟨r.op,0,0,cl2,nm2,ds2,[]⟩:IN)) ?_
     have hSn:SX w r (⟨r.op,0,0,cl2,nm2,ds2,[]⟩:IN) (W3.setRow (w.heap.size+2) (IN.cells (⟨r.op,0,0,cl2,nm2,ds2,[]⟩:IN)).toArray):=hSw.setrow _;refine⟨hSn,hK _ _ ?_⟩;clear hK K hSw
     refine A0k (fun y=>y=W3.setRow (w.heap.size+2) (IN.cells (⟨r.op,0,0,cl2,nm2,ds2,[]⟩:IN)).toArray) (fun y hy=>hy▸hSn) rfl ?_
     iterate 1
      refine A0h fun K hK=>tkX ?_
      go_simp
      try go_bits
      refine hK _ ?_;clear hK K
     refine A0n (fun y hy=> ?_);obtain rfl:W3.setRow (w.heap.size+2) (IN.cells (⟨r.op,0,0,cl2,nm2,ds2,[]⟩:IN)).toArray=y:=Eq.symm hy
     go_wp2_with fail
     refine bodyPost_ret (A0d rfl _ _ (w.heap.size+2) A1v (IN.cells (⟨r.op,0,0,cl2,nm2,ds2,[]⟩:IN)).toArray (0,0) _ rfl (setRow_heap _ _ _ _ _ _ HT.out.z) Tryz.underlying54 rfl A0p) rfl ?_
     exact⟨(⟨r.op,0,0,cl2,nm2,ds2,[]⟩:IN),false,rfl,(by rw[HCC.out];rfl),(fun _=>HVV.out.symm),HT.out.done _⟩
    iterate 2
     refine A0b fun K hK=>tkF ?_
     go_simp
     try go_bits
     refine hK _ _ ?_;clear hK K
    refine A0b fun K hK=>alF ?_
    go_step;refine(HQ3.out W3).mono ?_;rintro e w9 ⟨rfl,hb9⟩;replace HT:=hzz (HT.out.below hb9);replace hSw:=hSw.below hb9;clear hb9;go_simp
    first|refine⟨hSw,hK _ _ ?_⟩|refine hK _ _ ?_
    clear hK K
    iterate 1
     refine A0b fun K hK=>tkF ?_
     go_simp
     try go_bits
     refine hK _ _ ?_;clear hK K
    refine A0b fun K hK=>alF ?_
    refine wp_store_row A1v _ _ rfl (w.heap.size+2) (IN.cells (⟨r.op,0,0,cl2,nm2,ds2,[]⟩:IN)).toArray rfl rfl A1v _ HT.out.z A0p rfl (A9f (⟨r.op,0,0,cl2,nm2,ds2,[]⟩:IN)) ?_
    have hSn:SX w r (⟨r.op,0,0,cl2,nm2,ds2,[]⟩:IN) (w9.setRow (w.heap.size+2) (IN.cells (⟨r.op,0,0,cl2,nm2,ds2,[]⟩:IN)).toArray):=hSw.setrow _;refine⟨hSn,hK _ _ ?_⟩;clear hK K hSw
    refine A0k (fun y=>y=w9.setRow (w.heap.size+2) (IN.cells (⟨r.op,0,0,cl2,nm2,ds2,[]⟩:IN)).toArray) (fun y hy=>hy▸hSn) rfl ?_
    iterate 1
     refine A0h fun K hK=>tkX ?_
     go_simp
     try go_bits
     refine hK _ ?_;clear hK K
    refine A0n (fun y hy=> ?_);obtain rfl:w9.setRow (w.heap.size+2) (IN.cells (⟨r.op,0,0,cl2,nm2,ds2,[]⟩:IN)).toArray=y:=Eq.symm hy
    go_wp2_with fail
    refine bodyPost_ret (A0d rfl _ _ (w.heap.size+2) A1v (IN.cells (⟨r.op,0,0,cl2,nm2,ds2,[]⟩:IN)).toArray (0,0) _ rfl (setRow_heap _ _ _ _ _ _ HT.out.z) Tryz.underlying54 rfl A0p) rfl ?_
    exact⟨(⟨r.op,0,0,cl2,nm2,ds2,[]⟩:IN),b3,rfl,(by rw[HCC.out];rfl),(fun _=>HVV.out.symm),HT.out.done _⟩
 have HVV:=hzz (show V={A4b r with cl:=(A0s K r.a).1} by rw[HV.out];unfold D9q;rw[if_neg o20,if_neg hm,if_neg hv])
 have HCC:=hzz (show C=aclsB K r.a (decide (r.op≠187)) by rw[HC.out];unfold D4p;rw[if_neg o20,if_neg hm,if_neg hv]);have HM:=hzz (A4y W a n cap K r.a HS0.out.k HNN.out)
 have HLN:=hzz (A4s HTX.out r.a);unfold A4f at HM;unfold aclsB at HCC;obtain⟨M,hM⟩:=exz (A0s K r.a);rw[<-hM]at HM HLN HVV HCC;dsimp only[A4b]at HVV
 simp only[A7j,A9w,Bool.or_eq_true,decide_eq_true_eq,not_or]at hm hv;obtain⟨m1,m2,m3,m4⟩:=hm;obtain⟨m5,m6⟩:=hv;have e178:((r.op:Int)==178)=false:=by rw[beq_eq_false_iff_ne];omega
 have e179:((r.op:Int)==179)=false:=by rw[beq_eq_false_iff_ne];omega
 have e180:((r.op:Int)==180)=false:=by rw[beq_eq_false_iff_ne];omega
 have e181:((r.op:Int)==181)=false:=by rw[beq_eq_false_iff_ne];omega
 have e182:((r.op:Int)==182)=false:=by rw[beq_eq_false_iff_ne];omega
 have e184:((r.op:Int)==184)=false:=by rw[beq_eq_false_iff_ne];omega
 have e187:((r.op:Int) !=187)=decide (r.op≠187):=by by_cases h:r.op=187<;>simp[h]<;>omega
 clear hM HV HC o20 m1 m2 m3 m4 m5 m6;generalize decide (r.op≠187)=arr at*;obtain⟨cl2,b0⟩:=M;dsimp only at HM HLN HVV HCC;have n1:=HLN.out;have HQ1:=hzz (fun W=>A2y W cl2 (by omega))
 have HQ2:=hzz (fun W=>B3w W cl2 n1);clear n1;generalize classB cl2=b1 at*;generalize A2m cl2=b2 at*
 go_upto_region 18 with fail
 go_wp2_with fail
 refine HM.out.mono ?_;rintro e w1 ⟨rfl,hw1⟩;obtain rfl:W=w1:=hw1;clear HM
 go_upto_region 19 with fail
 have HS4:=hzz (HS0.out.put HKS.out 3 _ (HS0.out.x.set3 cl2));clear HS0 i0 i1 i2 i3 i4 i5 i6 f1 f2 f3 f4 f5 f6 r1 r2;dsimp only[A4b]at HS4
 generalize W.setCell ⟨w.heap.size+1,3,none⟩ (.string ⟨cl2.toArray⟩)=W2 at*;have HT:=hzz (HS4.out.below (brz.drew));have hSw:SX w r (⟨r.op,0,0,cl2,[],[],[]⟩:IN) W2.drew:=⟨HT.out.r,HT.out.x⟩
 have l0:∀z,SX w r (⟨r.op,0,0,cl2,[],[],[]⟩:IN) z->z.cell? ⟨w.heap.size+1,0,none⟩=some (.int .u8 (r.op:Nat)):=fun z h=>h.2.box.c0
 have l1:∀z,SX w r (⟨r.op,0,0,cl2,[],[],[]⟩:IN) z->z.cell? ⟨w.heap.size+1,1,none⟩=some (.int .i64 0):=fun z h=>h.2.box.c1
 have l2:∀z,SX w r (⟨r.op,0,0,cl2,[],[],[]⟩:IN) z->z.cell? ⟨w.heap.size+1,2,none⟩=some (.int .i64 0):=fun z h=>h.2.box.c2
 have l3:∀z,SX w r (⟨r.op,0,0,cl2,[],[],[]⟩:IN) z->z.cell? ⟨w.heap.size+1,3,none⟩=some (.string ⟨cl2.toArray⟩):=fun z h=>h.2.box.c3
 have l4:∀z,SX w r (⟨r.op,0,0,cl2,[],[],[]⟩:IN) z->z.cell? ⟨w.heap.size+1,4,none⟩=some (.string ⟨#[]⟩):=fun z h=>h.2.box.c4
 have l5:∀z,SX w r (⟨r.op,0,0,cl2,[],[],[]⟩:IN) z->z.cell? ⟨w.heap.size+1,5,none⟩=some (.string ⟨#[]⟩):=fun z h=>h.2.box.c5
 have l6:∀z,SX w r (⟨r.op,0,0,cl2,[],[],[]⟩:IN) z->z.cell? ⟨w.heap.size+1,6,none⟩=some (.string ⟨#[]⟩):=fun z h=>h.2.box.c6
 have la:∀z,SX w r (⟨r.op,0,0,cl2,[],[],[]⟩:IN) z->z.cell? ⟨w.heap.size,1,none⟩=some (.int .u8 (r.op:Nat)):=fun z h=>A0a h.1 1 rfl
 refine A0g (SX w r (⟨r.op,0,0,cl2,[],[],[]⟩:IN)) (.of [(0,true),(1,true),(2,true),(3,true),(4,true),(5,false),(6,true),(7,true),(8,true),(9,true),(10,true),(11,true),(12,true),(13,false),(14,true),(15,true),(16,true),(17,false)] (.stir [(18,true)])) (by kernel_rfl) (by kernel_rfl) (fun c a d v w h=>by cases d<;>exact h) ?_
 clear HS4;generalize W2.drew=W3 at*
 iterate 3
  refine A0b fun K hK=>tkF ?_
  go_simp
  try go_bits
  refine hK _ _ ?_;clear hK K
 cases b0
 ·iterate 13
   refine A0b fun K hK=>skF ?_
   go_simp;refine hK _ _ ?_;clear hK K
  iterate 1
   refine A0b fun K hK=>tkF ?_
   go_simp
   try go_bits
   refine hK _ _ ?_;clear hK K
  refine A0b fun K hK=>alF ?_
  refine wp_store_row A1v _ _ rfl (w.heap.size+2) (IN.cells (⟨r.op,0,0,cl2,[],[],[]⟩:IN)).toArray rfl rfl A1v _ HT.out.z A0p rfl (A9f (⟨r.op,0,0,cl2,[],[],[]⟩:IN)) ?_
  have hSn:SX w r (⟨r.op,0,0,cl2,[],[],[]⟩:IN) (W3.setRow (w.heap.size+2) (IN.cells (⟨r.op,0,0,cl2,[],[],[]⟩:IN)).toArray):=hSw.setrow _;refine⟨hSn,hK _ _ ?_⟩;clear hK K hSw
  refine A0k (fun y=>y=W3.setRow (w.heap.size+2) (IN.cells (⟨r.op,0,0,cl2,[],[],[]⟩:IN)).toArray) (fun y hy=>hy▸hSn) rfl ?_
  iterate 1
   refine A0h fun K hK=>tkX ?_
   go_simp
   try go_bits
   refine hK _ ?_;clear hK K
  refine A0n (fun y hy=> ?_);obtain rfl:W3.setRow (w.heap.size+2) (IN.cells (⟨r.op,0,0,cl2,[],[],[]⟩:IN)).toArray=y:=Eq.symm hy
  go_wp2_with fail
  refine bodyPost_ret (A0d rfl _ _ (w.heap.size+2) A1v (IN.cells (⟨r.op,0,0,cl2,[],[],[]⟩:IN)).toArray (0,0) _ rfl (setRow_heap _ _ _ _ _ _ HT.out.z) Tryz.underlying54 rfl A0p) rfl ?_
  exact⟨(⟨r.op,0,0,cl2,[],[],[]⟩:IN),false,rfl,(by rw[HCC.out];rfl),(fun _=>HVV.out.symm),HT.out.done _⟩
 iterate 2
  refine A0b fun K hK=>tkF ?_
  go_simp
  try go_bits
  refine hK _ _ ?_;clear hK K
 refine A0b fun K hK=>alF ?_
 go_step;refine(HQ1.out W3).mono ?_;rintro e w9 ⟨rfl,hw9⟩;obtain rfl:W3=w9:=Eq.symm hw9;go_simp
 first|refine⟨hSw,hK _ _ ?_⟩|refine hK _ _ ?_
 clear hK K
 iterate 1
  refine A0b fun K hK=>tkF ?_
  go_simp
  try go_bits
  refine hK _ _ ?_;clear hK K
 cases b1
 ·iterate 4
   refine A0b fun K hK=>tkF ?_
   go_simp
   try go_bits
   refine hK _ _ ?_;clear hK K
  cases arr
  ·iterate 3
    refine A0b fun K hK=>skF ?_
    go_simp;refine hK _ _ ?_;clear hK K
   iterate 3
    refine A0b fun K hK=>tkF ?_
    go_simp
    try go_bits
    refine hK _ _ ?_;clear hK K
   refine A0b fun K hK=>alF ?_
   refine wp_store_row A1v _ _ rfl (w.heap.size+2) (IN.cells (⟨r.op,0,0,cl2,[],[],[]⟩:IN)).toArray rfl rfl A1v _ HT.out.z A0p rfl (A9f (⟨r.op,0,0,cl2,[],[],[]⟩:IN)) ?_
   have hSn:SX w r (⟨r.op,0,0,cl2,[],[],[]⟩:IN) (W3.setRow (w.heap.size+2) (IN.cells (⟨r.op,0,0,cl2,[],[],[]⟩:IN)).toArray):=hSw.setrow _;refine⟨hSn,hK _ _ ?_⟩;clear hK K hSw
   refine A0k (fun y=>y=W3.setRow (w.heap.size+2) (IN.cells (⟨r.op,0,0,cl2,[],[],[]⟩:IN)).toArray) (fun y hy=>hy▸hSn) rfl ?_
   iterate 1
    refine A0h fun K hK=>tkX ?_
    go_simp
    try go_bits
    refine hK _ ?_;clear hK K
   refine A0n (fun y hy=> ?_);obtain rfl:W3.setRow (w.heap.size+2) (IN.cells (⟨r.op,0,0,cl2,[],[],[]⟩:IN)).toArray=y:=Eq.symm hy
   go_wp2_with fail
   refine bodyPost_ret (A0d rfl _ _ (w.heap.size+2) A1v (IN.cells (⟨r.op,0,0,cl2,[],[],[]⟩:IN)).toArray (0,0) _ rfl (setRow_heap _ _ _ _ _ _ HT.out.z) Tryz.underlying54 rfl A0p) rfl ?_
   exact⟨(⟨r.op,0,0,cl2,[],[],[]⟩:IN),false,rfl,(by rw[HCC.out];rfl),(fun _=>HVV.out.symm),HT.out.done _⟩
  iterate 2
   refine A0b fun K hK=>tkF ?_
   go_simp
   try go_bits
   refine hK _ _ ?_;clear hK K
  refine A0b fun K hK=>alF ?_
  go_step;refine(HQ2.out W3).mono ?_;rintro e w9 ⟨rfl,hw9⟩;obtain rfl:W3=w9:=Eq.symm hw9;go_simp
  first|refine⟨hSw,hK _ _ ?_⟩|refine hK _ _ ?_
  clear hK K
  iterate 3
   refine A0b fun K hK=>tkF ?_
   go_simp
   try go_bits
   refine hK _ _ ?_;clear hK K
  refine A0b fun K hK=>alF ?_
  refine wp_store_row A1v _ _ rfl (w.heap.size+2) (IN.cells (⟨r.op,0,0,cl2,[],[],[]⟩:IN)).toArray rfl rfl A1v _ HT.out.z A0p rfl (A9f (⟨r.op,0,0,cl2,[],[],[]⟩:IN)) ?_
  have hSn:SX w r (⟨r.op,0,0,cl2,[],[],[]⟩:IN) (W3.setRow (w.heap.size+2) (IN.cells (⟨r.op,0,0,cl2,[],[],[]⟩:IN)).toArray):=hSw.setrow _;refine⟨hSn,hK _ _ ?_⟩;clear hK K hSw
  refine A0k (fun y=>y=W3.setRow (w.heap.size+2) (IN.cells (⟨r.op,0,0,cl2,[],[],[]⟩:IN)).toArray) (fun y hy=>hy▸hSn) rfl ?_
  iterate 1
   refine A0h fun K hK=>tkX ?_
   go_simp
   try go_bits
   refine hK _ ?_;clear hK K
  refine A0n (fun y hy=> ?_);obtain rfl:W3.setRow (w.heap.size+2) (IN.cells (⟨r.op,0,0,cl2,[],[],[]⟩:IN)).toArray=y:=Eq.symm hy
  go_wp2_with fail
  refine bodyPost_ret (A0d rfl _ _ (w.heap.size+2) A1v (IN.cells (⟨r.op,0,0,cl2,[],[],[]⟩:IN)).toArray (0,0) _ rfl (setRow_heap _ _ _ _ _ _ HT.out.z) Tryz.underlying54 rfl A0p) rfl ?_
  exact⟨(⟨r.op,0,0,cl2,[],[],[]⟩:IN),b2,rfl,(by rw[HCC.out];rfl),(fun _=>HVV.out.symm),HT.out.done _⟩
 iterate 8
  refine A0b fun K hK=>skF ?_
  go_simp;refine hK _ _ ?_;clear hK K
 iterate 2
  refine A0b fun K hK=>tkF ?_
  go_simp
  try go_bits
  refine hK _ _ ?_;clear hK K
 refine A0b fun K hK=>alF ?_
 refine wp_store_row A1v _ _ rfl (w.heap.size+2) (IN.cells (⟨r.op,0,0,cl2,[],[],[]⟩:IN)).toArray rfl rfl A1v _ HT.out.z A0p rfl (A9f (⟨r.op,0,0,cl2,[],[],[]⟩:IN)) ?_
 have hSn:SX w r (⟨r.op,0,0,cl2,[],[],[]⟩:IN) (W3.setRow (w.heap.size+2) (IN.cells (⟨r.op,0,0,cl2,[],[],[]⟩:IN)).toArray):=hSw.setrow _;refine⟨hSn,hK _ _ ?_⟩;clear hK K hSw
 refine A0k (fun y=>y=W3.setRow (w.heap.size+2) (IN.cells (⟨r.op,0,0,cl2,[],[],[]⟩:IN)).toArray) (fun y hy=>hy▸hSn) rfl ?_
 iterate 1
  refine A0h fun K hK=>tkX ?_
  go_simp
  try go_bits
  refine hK _ ?_;clear hK K
 refine A0n (fun y hy=> ?_);obtain rfl:W3.setRow (w.heap.size+2) (IN.cells (⟨r.op,0,0,cl2,[],[],[]⟩:IN)).toArray=y:=Eq.symm hy
 go_wp2_with fail
 refine bodyPost_ret (A0d rfl _ _ (w.heap.size+2) A1v (IN.cells (⟨r.op,0,0,cl2,[],[],[]⟩:IN)).toArray (0,0) _ rfl (setRow_heap _ _ _ _ _ _ HT.out.z) Tryz.underlying54 rfl A0p) rfl ?_
 exact⟨(⟨r.op,0,0,cl2,[],[],[]⟩:IN),true,rfl,(by rw[HCC.out];rfl),(fun _=>HVV.out.symm),HT.out.done _⟩
structure RiS(w wx:World)(a:Option Addr)(n:Nat)(K:List KV)(la:Option Addr)(ln:Nat)(L:List RW)(r:RW)(x:IN):Prop where
 r:wx.heap[w.heap.size]? =some (.cells r.cells.toArray 118 (0,0))
 z:A3u (w.heap.size+1) ⟨0,0,0,[],[],[],[]⟩ wx
 x:A3u (w.heap.size+1+1) x wx
 k:Ks wx a n K
 l:Rs wx la ln L
 b:Below w.heap.size w wx
theorem RiS.below{w wx w9:World}{a:Option Addr}{n:Nat}{K:List KV}{la:Option Addr}{ln:Nat}{L:List RW}{r:RW}{x:IN}(h:RiS w wx a n K la ln L r x)(hb:Below wx.heap.size wx w9):RiS w w9 a n K la ln L r x:=
 ⟨A0c h.r hb,h.z.below hb,h.x.below hb,h.k.below hb,h.l.below hb,h.b.trans (hb.mono h.b.size)⟩
theorem RiS.put{w wx:World}{a:Option Addr}{n:Nat}{K:List KV}{la:Option Addr}{ln:Nat}{L:List RW}{r:RW}{x x':IN}(h:RiS w wx a n K la ln L r x)(hK:Ks w a n K)(hL:Rs w la ln L)(o:Nat)(v:Value)(hi:A3u (w.heap.size+1+1) x' (wx.setCell ⟨w.heap.size+1+1,o,none⟩ v)):RiS w (wx.setCell ⟨w.heap.size+1+1,o,none⟩ v) a n K la ln L r x':=by
 have hb:Below w.heap.size w (wx.setCell ⟨w.heap.size+1+1,o,none⟩ v):=h.b.setCell (show w.heap.size<=w.heap.size+1+1 by omega) v
 exact⟨A1d h.r (by omega) o v,A1d h.z (by omega) o v,hi,hK.below hb,hL.below hb,hb⟩
theorem RiS.done{w wx:World}{a:Option Addr}{n:Nat}{K:List KV}{la:Option Addr}{ln:Nat}{L:List RW}{r:RW}{x:IN}(h:RiS w wx a n K la ln L r x)(cs:Array Value):Below w.heap.size w (wx.setRow (w.heap.size+1) cs):=
 (A0j.setrow (A0j.refl (fun k=>k=w.heap.size+1) wx) (.inl rfl) cs).below h.b nlz (fun k hk=>by omega)
def QI(s b o:Nat)(r:RW)(v:Int)(w:World):Prop:=w.heap[s]? =some (.cells r.cells.toArray 118 (0,0))/\w.cell? ⟨b,o,none⟩=some (.int .i64 v)
theorem E3m{K:List KV}{r:RW}(h5:A0q r.op=5)(hop:r.op<256):r.op≠20:=by
 intro e;rw[e]at h5;revert h5;decide
theorem E1z{K:List KV}{r:RW}(h20:r.op≠20)(h3:(kAt K r.a.toNat).tag=3):B0q K (A4b r) r.a.toNat={A4b r with ds:=[73],n:=(kAt K r.a.toNat).n}/\B1m (B0q K (A4b r) r.a.toNat)=true:=by
 have e:B0q K (A4b r) r.a.toNat={A4b r with ds:=[73],n:=(kAt K r.a.toNat).n}:=by
  unfold B0q;rw[if_pos h3]
 refine⟨e,?_⟩;rw[e];simp[B1m,A4b,h20]
theorem E1r{K:List KV}{r:RW}(h20:r.op≠20)(h8:(kAt K r.a.toNat).tag=8):B0q K (A4b r) r.a.toNat={A4b r with ds:=[83],tx:=A1k K (kAt K r.a.toNat).a}/\B1m (B0q K (A4b r) r.a.toNat)=true:=by
 have e:B0q K (A4b r) r.a.toNat={A4b r with ds:=[83],tx:=A1k K (kAt K r.a.toNat).a}:=by
  unfold B0q;rw[if_neg (by omega),if_neg (by omega),if_pos h8]
 refine⟨e,?_⟩;rw[e];simp[B1m,A4b,h20]
theorem D7k{K:List KV}{r:RW}(h20:r.op≠20)(h3:(kAt K r.a.toNat).tag≠3)(h8:(kAt K r.a.toNat).tag≠8):B1m (B0q K (A4b r) r.a.toNat)=false:=by
 unfold B0q;rw[if_neg h3];by_cases h5:(kAt K r.a.toNat).tag=5
 ·rw[if_pos h5];simp[B1m,A4b,h20]
 rw[if_neg h5,if_neg h8];simp[B1m,A4b]
def D9b(K:List KV):Prop:=∀i:Int,(kAt K i).tag=8->isT K (kAt K i).a 1=true
theorem D5e(w:World)(a:Option Addr)(n cap:Nat)(K:List KV)(la:Option Addr)(ln lc:Nat)(L:List RW)(r:RW)(hs:Ks w a n K)(hn:n<=65536)(htx:∀i:Int,(kAt K i).s.length<=65536)(hst:D9b K)(hl:Rs w la ln L)(hln:ln<=65536)(hix:E4c L r)(hop:r.op<256)(hf0:A0q r.op≠0)(hra:A0q r.op=5\/A0q r.op=6->0<=r.a/\r.a<1048576):
  Calls Tryz.prog 67 #[.slice a n cap,.slice la ln lc,.agg #[.int .i64 r.pos,.int .u8 (r.op:Nat),.int .i64 r.a,.int .i64 r.b]] w (D2n (B1a K L r) (B5y K r) w):=by
 have HKS:=hzz hs;have HLS:=hzz hl;have HNN:=hzz hn;have HLN:=hzz hln;have HTX:=hzz htx;have HST:=hzz hst;have HIX:=hzz hix;have HRA:=hzz hra;have HOP:=hzz hop
 have HFM:=hzz (fun w=>A8x w r.op hop);have h9:=A3s r.op
 have hb0:Below w.heap.size w (((w.alloc (.cells #[.int .i64 r.pos,.int .u8 (r.op:Nat),.int .i64 r.a,.int .i64 r.b] 118)).alloc (.cells #[.int .u8 0,.int .i64 0,.int .i64 0,.string ⟨#[]⟩,.string ⟨#[]⟩,.string ⟨#[]⟩,.string ⟨#[]⟩] A1v)).alloc (.cells #[.int .u8 (r.op:Nat),.int .i64 0,.int .i64 0,.string ⟨#[]⟩,.string ⟨#[]⟩,.string ⟨#[]⟩,.string ⟨#[]⟩] A1v)):=(((Below.refl w.heap.size w).alloc nlz _).alloc (by simp) _).alloc (by simp;omega) _
 have HS0:=hzz (show RiS w (((w.alloc (.cells #[.int .i64 r.pos,.int .u8 (r.op:Nat),.int .i64 r.a,.int .i64 r.b] 118)).alloc (.cells #[.int .u8 0,.int .i64 0,.int .i64 0,.string ⟨#[]⟩,.string ⟨#[]⟩,.string ⟨#[]⟩,.string ⟨#[]⟩] A1v)).alloc (.cells #[.int .u8 (r.op:Nat),.int .i64 0,.int .i64 0,.string ⟨#[]⟩,.string ⟨#[]⟩,.string ⟨#[]⟩,.string ⟨#[]⟩] A1v)) a n K la ln L r (A4b r)from⟨by
  rw[Below.heap_alloc _ _ _ (by simp;omega),Below.heap_alloc _ _ _ (by simp)];exact heap_alloc_last w _,by
  unfold A3u;rw[Below.heap_alloc _ _ _ (by simp)]
  have h:=heap_alloc_last (w.alloc (.cells #[.int .i64 r.pos,.int .u8 (r.op:Nat),.int .i64 r.a,.int .i64 r.b] 118)) (.cells #[.int .u8 0,.int .i64 0,.int .i64 0,.string ⟨#[]⟩,.string ⟨#[]⟩,.string ⟨#[]⟩,.string ⟨#[]⟩] A1v)
  have h2:((w.alloc (.cells #[.int .i64 r.pos,.int .u8 (r.op:Nat),.int .i64 r.a,.int .i64 r.b] 118)).alloc (.cells #[.int .u8 0,.int .i64 0,.int .i64 0,.string ⟨#[]⟩,.string ⟨#[]⟩,.string ⟨#[]⟩,.string ⟨#[]⟩] A1v)).heap[w.heap.size+1]? =some (.cells #[.int .u8 0,.int .i64 0,.int .i64 0,.string ⟨#[]⟩,.string ⟨#[]⟩,.string ⟨#[]⟩,.string ⟨#[]⟩] A1v):=by simpa using h
  exact h2,by
  have h:=heap_alloc_last ((w.alloc (.cells #[.int .i64 r.pos,.int .u8 (r.op:Nat),.int .i64 r.a,.int .i64 r.b] 118)).alloc (.cells #[.int .u8 0,.int .i64 0,.int .i64 0,.string ⟨#[]⟩,.string ⟨#[]⟩,.string ⟨#[]⟩,.string ⟨#[]⟩] A1v)) (.cells #[.int .u8 (r.op:Nat),.int .i64 0,.int .i64 0,.string ⟨#[]⟩,.string ⟨#[]⟩,.string ⟨#[]⟩,.string ⟨#[]⟩] A1v)
  have h2:(((w.alloc (.cells #[.int .i64 r.pos,.int .u8 (r.op:Nat),.int .i64 r.a,.int .i64 r.b] 118)).alloc (.cells #[.int .u8 0,.int .i64 0,.int .i64 0,.string ⟨#[]⟩,.string ⟨#[]⟩,.string ⟨#[]⟩,.string ⟨#[]⟩] A1v)).alloc (.cells #[.int .u8 (r.op:Nat),.int .i64 0,.int .i64 0,.string ⟨#[]⟩,.string ⟨#[]⟩,.string ⟨#[]⟩,.string ⟨#[]⟩] A1v)).heap[w.heap.size+1+1]? =some (.cells #[.int .u8 (r.op:Nat),.int .i64 0,.int .i64 0,.string ⟨#[]⟩,.string ⟨#[]⟩,.string ⟨#[]⟩,.string ⟨#[]⟩] A1v):=by simpa using h
  exact h2,hs.below hb0,hl.below hb0,hb0⟩)
 obtain⟨V,hV⟩:=exz (B1a K L r);obtain⟨C,hC⟩:=exz (B5y K r);rw[<-hV,<-hC];have HV:=hV;have HC:=hC;unfold B1a at HV;unfold B5y at HC;obtain⟨f,hf⟩:=exz (A0q r.op);have HFF:=hzz hf
 rw[<-hf]at HV HC hf0 HFM h9;have hfc:f=1\/f=2\/f=3\/f=4\/f=9\/f=8\/f=7\/f=5\/f=6:=by omega
 replace HV:=hzz HV;replace HC:=hzz HC;clear hs hl hn hln htx hst hix hra hb0 hV hC hf hf0 h9 hop;go_enter Tryz.func67,Tryz.ntmps67
 go_upto_region 2 with fail
 generalize((w.alloc (.cells #[.int .i64 r.pos,.int .u8 (r.op:Nat),.int .i64 r.a,.int .i64 r.b] 118)).alloc (.cells #[.int .u8 0,.int .i64 0,.int .i64 0,.string ⟨#[]⟩,.string ⟨#[]⟩,.string ⟨#[]⟩,.string ⟨#[]⟩] A1v)).alloc (.cells #[.int .u8 (r.op:Nat),.int .i64 0,.int .i64 0,.string ⟨#[]⟩,.string ⟨#[]⟩,.string ⟨#[]⟩,.string ⟨#[]⟩] A1v)=W at*
 have r1:=A0a HS0.out.r 1 rfl;dsimp only[RW.cells]at r1
 go_wp2_with fail
 refine(HFM.out W).mono ?_;rintro e w1 ⟨rfl,hw1⟩;obtain rfl:W=w1:=Eq.symm (Eq.symm hw1);obtain⟨i0,i1,i2,i3,i4,i5,i6,f1,f2,f3,f4,f5,f6⟩:=HS0.out.x.box;have r2:=A0a HS0.out.r 2 rfl
 have r3:=A0a HS0.out.r 3 rfl;have r0:=A0a HS0.out.r 0 rfl;dsimp only[RW.cells,A4b]at r0 r2 r3 i0 i1 i2 i3 i4 i5 i6;clear HFM
 rcases hfc with rfl|rfl|rfl|rfl|rfl|rfl|rfl|rfl|rfl
 ·have HVV:=hzz (show V={A4b r with n:=r.a}from HV.out);have HCC:=hzz (show C=true from HC.out);clear HV HC HIX HRA HST;have HS1:=hzz (HS0.out.put HKS.out HLS.out 1 _ (HS0.out.x.set1 r.a))
  go_upto_region 9 with fail
  refine wp_region_lit ?_;refine A0i rfl _ _ rfl _ rfl _ _ _ _ HS1.out.x Tryz.underlying54 rfl A0p ?_;refine wpList_store_row rfl _ _ _ rfl _ _ rfl rfl _ _ HS1.out.z A0p rfl (A9f _) ?_
  go_wp2_with fail
  refine bodyPost_ret (A0d rfl _ _ (w.heap.size+1) A1v (IN.cells _).toArray (0,0) _ rfl (setRow_heap _ _ _ _ _ _ HS1.out.z) Tryz.underlying54 rfl A0p) rfl ?_
  exact⟨_,_,rfl,HCC.out.symm,(fun _=>HVV.out.symm),HS1.out.done _⟩
 ·have HVV:=hzz (show V={A4b r with n:=r.a}from HV.out);have HCC:=hzz (show C=true from HC.out);clear HV HC HIX HRA HST;have HS1:=hzz (HS0.out.put HKS.out HLS.out 1 _ (HS0.out.x.set1 r.a))
  go_upto_region 9 with fail
  refine wp_region_lit ?_;refine A0i rfl _ _ rfl _ rfl _ _ _ _ HS1.out.x Tryz.underlying54 rfl A0p ?_;refine wpList_store_row rfl _ _ _ rfl _ _ rfl rfl _ _ HS1.out.z A0p rfl (A9f _) ?_
  go_wp2_with fail
  refine bodyPost_ret (A0d rfl _ _ (w.heap.size+1) A1v (IN.cells _).toArray (0,0) _ rfl (setRow_heap _ _ _ _ _ _ HS1.out.z) Tryz.underlying54 rfl A0p) rfl ?_
  exact⟨_,_,rfl,HCC.out.symm,(fun _=>HVV.out.symm),HS1.out.done _⟩
 ·have HVV:=hzz (show V={A4b r with n:=r.a}from HV.out);have HCC:=hzz (show C=true from HC.out);clear HV HC HIX HRA HST;have HS1:=hzz (HS0.out.put HKS.out HLS.out 1 _ (HS0.out.x.set1 r.a))
  go_upto_region 9 with fail
  refine wp_region_lit ?_;refine A0i rfl _ _ rfl _ rfl _ _ _ _ HS1.out.x Tryz.underlying54 rfl A0p ?_;refine wpList_store_row rfl _ _ _ rfl _ _ rfl rfl _ _ HS1.out.z A0p rfl (A9f _) ?_
  go_wp2_with fail
  refine bodyPost_ret (A0d rfl _ _ (w.heap.size+1) A1v (IN.cells _).toArray (0,0) _ rfl (setRow_heap _ _ _ _ _ _ HS1.out.z) Tryz.underlying54 rfl A0p) rfl ?_
  exact⟨_,_,rfl,HCC.out.symm,(fun _=>HVV.out.symm),HS1.out.done _⟩
 ·have HVV:=hzz (show V={A4b r with n:=r.a}from HV.out);have HCC:=hzz (show C=true from HC.out);clear HV HC HIX HRA HST;have HS1:=hzz (HS0.out.put HKS.out HLS.out 1 _ (HS0.out.x.set1 r.a))
  go_upto_region 9 with fail
  refine wp_region_lit ?_;refine A0i rfl _ _ rfl _ rfl _ _ _ _ HS1.out.x Tryz.underlying54 rfl A0p ?_;refine wpList_store_row rfl _ _ _ rfl _ _ rfl rfl _ _ HS1.out.z A0p rfl (A9f _) ?_
  go_wp2_with fail
  refine bodyPost_ret (A0d rfl _ _ (w.heap.size+1) A1v (IN.cells _).toArray (0,0) _ rfl (setRow_heap _ _ _ _ _ _ HS1.out.z) Tryz.underlying54 rfl A0p) rfl ?_
  exact⟨_,_,rfl,HCC.out.symm,(fun _=>HVV.out.symm),HS1.out.done _⟩
 ·have HVV:=hzz (show V={A4b r with n:=r.a}from HV.out);have HCC:=hzz (show C=true from HC.out);clear HV HC HIX HRA HST;have HS1:=hzz (HS0.out.put HKS.out HLS.out 1 _ (HS0.out.x.set1 r.a))
  go_upto_region 9 with fail
  refine wp_region_lit ?_;refine A0i rfl _ _ rfl _ rfl _ _ _ _ HS1.out.x Tryz.underlying54 rfl A0p ?_;refine wpList_store_row rfl _ _ _ rfl _ _ rfl rfl _ _ HS1.out.z A0p rfl (A9f _) ?_
  go_wp2_with fail
  refine bodyPost_ret (A0d rfl _ _ (w.heap.size+1) A1v (IN.cells _).toArray (0,0) _ rfl (setRow_heap _ _ _ _ _ _ HS1.out.z) Tryz.underlying54 rfl A0p) rfl ?_
  exact⟨_,_,rfl,HCC.out.symm,(fun _=>HVV.out.symm),HS1.out.done _⟩
 ·have HVV:=hzz (show V={A4b r with n:=r.a,m:=r.b}from HV.out);have HCC:=hzz (show C=true from HC.out);clear HV HC HIX HRA HST i0 i3 r0 r1
  go_upto_region 11 with fail
  have ld2:∀w':World,w'.heap[w.heap.size]? =some (.cells r.cells.toArray 118 (0,0))->w'.cell? ⟨w.heap.size,2,none⟩=some (.int .i64 r.a):=fun w' h=>A0a h 2 rfl
  have ld3:∀w':World,w'.heap[w.heap.size]? =some (.cells r.cells.toArray 118 (0,0))->w'.cell? ⟨w.heap.size,3,none⟩=some (.int .i64 r.b):=fun w' h=>A0a h 3 rfl
  have HID:=hzz (HS0.out.below (brz.drew));have hSw:W.drew.heap[w.heap.size]? =some (.cells r.cells.toArray 118 (0,0)):=HID.out.r
  have fd1:W.drew.frozen? ⟨w.heap.size+1+1,1,none⟩=false:=HID.out.x.box.f1
  refine A0g (fun wx=>wx.heap[w.heap.size]? =some (.cells r.cells.toArray 118 (0,0))) (.of [(0,true),(1,true),(2,true),(3,true),(4,true),(5,false),(6,true),(7,false)] (.stir [])) (by kernel_rfl) (by kernel_rfl) (fun c a d v w h=>by cases d<;>exact h) ?_
  iterate 5
   refine A0b fun K hK=>tkF ?_
   go_simp
   try go_bits
   refine hK _ _ ?_;clear hK K
  have HI2:=hzz (HID.out.put HKS.out HLS.out 1 _ (HID.out.x.set1 r.a));refine A0b fun K hK=>alF ?_
  go_step;have hS2:(W.drew.setCell ⟨w.heap.size+1+1,1,none⟩ (.int .i64 r.a)).heap[w.heap.size]? =some (.cells r.cells.toArray 118 (0,0)):=HI2.out.r;refine⟨hS2,hK _ _ ?_⟩;clear hK K hSw fd1 HID
  have hSw:=hS2;clear hS2;have fd2:(W.drew.setCell ⟨w.heap.size+1+1,1,none⟩ (.int .i64 r.a)).frozen? ⟨w.heap.size+1+1,2,none⟩=false:=HI2.out.x.box.f2
  iterate 1
   refine A0b fun K hK=>tkF ?_
   go_simp
   try go_bits
   refine hK _ _ ?_;clear hK K
  have HS1:=hzz (HI2.out.put HKS.out HLS.out 2 _ (HI2.out.x.set2 r.b));refine A0b fun K hK=>alF ?_
  go_step
  have hS3:((W.drew.setCell ⟨w.heap.size+1+1,1,none⟩ (.int .i64 r.a)).setCell ⟨w.heap.size+1+1,2,none⟩ (.int .i64 r.b)).heap[w.heap.size]? =some (.cells r.cells.toArray 118 (0,0)):=HS1.out.r
  refine⟨hS3,hK _ _ ?_⟩;clear hK K hSw fd2 HI2
  refine A0k (fun y=>y=(W.drew.setCell ⟨w.heap.size+1+1,1,none⟩ (.int .i64 r.a)).setCell ⟨w.heap.size+1+1,2,none⟩ (.int .i64 r.b)) (fun y hy=>hy▸hS3) rfl ?_
  refine A0n (fun y hy=> ?_);subst hy;clear hS3 ld2 ld3
  go_upto_region 12 with fail
  refine wp_region_lit ?_;refine A0i rfl _ _ rfl _ rfl _ _ _ _ HS1.out.x Tryz.underlying54 rfl A0p ?_;refine wpList_store_row rfl _ _ _ rfl _ _ rfl rfl _ _ HS1.out.z A0p rfl (A9f _) ?_
  go_wp2_with fail
  refine bodyPost_ret (A0d rfl _ _ (w.heap.size+1) A1v (IN.cells _).toArray (0,0) _ rfl (setRow_heap _ _ _ _ _ _ HS1.out.z) Tryz.underlying54 rfl A0p) rfl ?_
  exact⟨_,_,rfl,HCC.out.symm,(fun _=>HVV.out.symm),HS1.out.done _⟩
 ·have HVV:=hzz (show V={A4b r with n:=(((B7n L r.a).getD 0:Nat):Int)}from HV.out);have HCC:=hzz (show C=true from HC.out);have HI:=hzz (A8j W la ln lc L r.a HS0.out.l HLN.out)
  have HX7:=hzz (HIX.out (by rw[<-HFF.out]));rw[HX7.out]at HI;clear HV HC HIX HRA HST HX7;generalize(((B7n L r.a).getD 0:Nat):Int)=ix at*
  go_upto_region 14 with fail
  go_wp2_with fail
  refine HI.out.mono ?_;rintro e w9 ⟨rfl,hb⟩;have HS1:=hzz (HS0.out.below hb);clear hb HI HS0 i0 i1 i2 i3 i4 i5 i6 f1 f2 f3 f4 f5 f6 r0 r1 r2 r3
  obtain⟨i0,i1,i2,i3,i4,i5,i6,f1,f2,f3,f4,f5,f6⟩:=HS1.out.x.box;dsimp only[A4b]at i0 i1 i2 i3 i4 i5 i6;have HS2:=hzz (HS1.out.put HKS.out HLS.out 1 _ (HS1.out.x.set1 ix))
  go_upto_region 15 with fail
  refine wp_region_lit ?_;refine A0i rfl _ _ rfl _ rfl _ _ _ _ HS2.out.x Tryz.underlying54 rfl A0p ?_;refine wpList_store_row rfl _ _ _ rfl _ _ rfl rfl _ _ HS2.out.z A0p rfl (A9f _) ?_
  go_wp2_with fail
  refine bodyPost_ret (A0d rfl _ _ (w.heap.size+1) A1v (IN.cells _).toArray (0,0) _ rfl (setRow_heap _ _ _ _ _ _ HS2.out.z) Tryz.underlying54 rfl A0p) rfl ?_
  exact⟨_,_,rfl,HCC.out.symm,(fun _=>HVV.out.symm),HS2.out.done _⟩
 ·have h20:r.op≠20:=E3m (K:=K) HFF.out.symm HOP.out;have HVV0:=hzz (show V=B0q K (A4b r) r.a.toNat from HV.out);have HCC0:=hzz (show C=B1m (B0q K (A4b r) r.a.toNat)from HC.out)
  obtain⟨ra0,ra1⟩:=HRA.out (.inl HFF.out.symm);have H20:=hzz h20;clear HV HC HIX HRA h20;by_cases hlt:r.a<n
  ·have hlz:decide (r.a<(n:Int))=true:=by simp;omega
   obtain⟨b,off,rfl,hbl,k0,k1,k2,k3,k4⟩:=HS0.out.k.at r.a.toNat (by omega);obtain⟨c,hc⟩:=exz (kAt K r.a.toNat);rw[<-hc]at k0 k1 k2 k3 k4;have HCQ:=hzz hc;by_cases h3:c.tag=3
   ·obtain⟨v1,v2⟩:=E1z H20.out (show(kAt K r.a.toNat).tag=3 by rw[<-hc];exact h3);have e3:(c.tag==3)=true:=by rw[h3];rfl
    have HVV:=hzz (HVV0.out.trans v1);have HCC:=hzz (HCC0.out.trans v2);rw[<-hc]at HVV;clear hc h3 v1 v2 HVV0 HCC0
    go_upto_region 18 with fail
    have HSD:=hzz (HS0.out.below (brz.drew));have hSw:QI w.heap.size b (off+r.a.toNat*5+3) r c.n W.drew:=⟨HSD.out.r,k3⟩
    have l0:∀z,QI w.heap.size b (off+r.a.toNat*5+3) r c.n z->z.cell? ⟨w.heap.size,2,none⟩=some (.int .i64 r.a):=fun z h=>A0a h.1 2 rfl
    have l1:∀z,QI w.heap.size b (off+r.a.toNat*5+3) r c.n z->z.cell? ⟨b,off+r.a.toNat*5+3,none⟩=some (.int .i64 c.n):=fun z h=>h.2
    refine A0g (QI w.heap.size b (off+r.a.toNat*5+3) r c.n) (.of [(0,true),(1,true),(2,true),(3,true),(4,true),(5,true),(6,true),(7,false),(8,true),(9,false)] (.stir [])) (by kernel_rfl) (by kernel_rfl) (fun c a d v w h=>by cases d<;>exact h) ?_
    generalize W.drew=W1 at*
    iterate 7
     refine A0b fun K hK=>tkF ?_
     go_simp
     try go_bits
     refine hK _ _ ?_;clear hK K
    obtain⟨i0,i1,i2,i3,i4,i5,i6,f1,f2,f3,f4,f5,f6⟩:=HSD.out.x.box;refine A0b fun K hK=>alF ?_
    go_step;have HS1:=hzz (HSD.out.put HKS.out HLS.out 5 _ (HSD.out.x.set5 [73]))
    have hSn:QI w.heap.size b (off+r.a.toNat*5+3) r c.n (W1.setCell ⟨w.heap.size+1+1,5,none⟩ (.string ⟨#[73]⟩)):=⟨HS1.out.r,by
     obtain⟨b2,off2,e,_,_,_,_,q3,_⟩:=HS1.out.k.at r.a.toNat (by omega)
     cases e
     rw[<-HCQ.out]at q3;exact q3⟩
    refine⟨hSn,hK _ _ ?_⟩;clear hK K hSw i0 i1 i2 i3 i4 i5 i6 f1 f2 f3 f4 f5 f6;have hSw:=hSn;clear hSn
    iterate 1
     refine A0b fun K hK=>tkF ?_
     go_simp
     try go_bits
     refine hK _ _ ?_;clear hK K
    obtain⟨i0,i1,i2,i3,i4,i5,i6,f1,f2,f3,f4,f5,f6⟩:=HS1.out.x.box;dsimp only[A4b]at i0 i1 i2 i3 i4 i5 i6;refine A0b fun K hK=>alF ?_
    go_step;have HS2:=hzz (HS1.out.put HKS.out HLS.out 1 _ (HS1.out.x.set1 c.n))
    have hSn:QI w.heap.size b (off+r.a.toNat*5+3) r c.n ((W1.setCell ⟨w.heap.size+1+1,5,none⟩ (.string ⟨#[73]⟩)).setCell ⟨w.heap.size+1+1,1,none⟩ (.int .i64 c.n)):=⟨HS2.out.r,by
     obtain⟨b2,off2,e,_,_,_,_,q3,_⟩:=HS2.out.k.at r.a.toNat (by omega)
     cases e
     rw[<-HCQ.out]at q3;exact q3⟩
    refine⟨hSn,hK _ _ ?_⟩;clear hK K hSw i0 i1 i2 i3 i4 i5 i6 f1 f2 f3 f4 f5 f6
    generalize(W1.setCell ⟨w.heap.size+1+1,5,none⟩ (.string ⟨#[73]⟩)).setCell ⟨w.heap.size+1+1,1,none⟩ (.int .i64 c.n)=W2 at*;refine A0k (fun y=>y=W2) (fun y hy=>hy▸hSn) rfl ?_
    refine A0n (fun y hy=> ?_);obtain rfl:W2=y:=Eq.symm hy;clear hSn l0 l1
    go_upto_region 19 with fail
    refine wp_region_lit ?_;refine A0i rfl _ _ rfl _ rfl _ _ _ _ HS2.out.x Tryz.underlying54 rfl A0p ?_
    refine wpList_store_row rfl _ _ _ rfl _ _ rfl rfl _ _ HS2.out.z A0p rfl (A9f _) ?_
    go_wp2_with fail
    refine bodyPost_ret (A0d rfl _ _ (w.heap.size+1) A1v (IN.cells _).toArray (0,0) _ rfl (setRow_heap _ _ _ _ _ _ HS2.out.z) Tryz.underlying54 rfl A0p) rfl ?_
    exact⟨_,_,rfl,HCC.out.symm,(fun _=>HVV.out.symm),HS2.out.done _⟩
   have e3:(c.tag==3)=false:=by rw[beq_eq_false_iff_ne];exact h3
   by_cases h8:c.tag=8
   ·obtain⟨v1,v2⟩:=E1r H20.out (show(kAt K r.a.toNat).tag=8 by rw[<-hc];exact h8);have e8:(c.tag==8)=true:=by rw[h8];rfl
    have HVV:=hzz (HVV0.out.trans v1);have HCC:=hzz (HCC0.out.trans v2)
    have hT1:isT K c.a 1=true:=by
     rw[hc];exact HST.out r.a.toNat (by rw[<-hc];exact h8)
    rw[<-hc]at HVV;have HTE:=hzz (A7g W (some ⟨b,off,none⟩) n cap K c.a HS0.out.k HNN.out);unfold A5j at HTE;rw[hT1]at HTE;clear hc h3 h8 v1 v2 HVV0 HCC0 hT1
    generalize A1k K c.a=tx at*
    go_upto_region 21 with fail
    go_wp2_with fail
    refine HTE.out.mono ?_;rintro e w9 ⟨rfl,hw9⟩;obtain rfl:W=w9:=hw9;clear HTE
    go_upto_region 22 with fail
    have HS1:=hzz (HS0.out.put HKS.out HLS.out 5 _ (HS0.out.x.set5 [83]));have HS2:=hzz (HS1.out.put HKS.out HLS.out 6 _ (HS1.out.x.set6 tx))
    go_upto_region 23 with fail
    refine wp_region_lit ?_;refine A0i rfl _ _ rfl _ rfl _ _ _ _ HS2.out.x Tryz.underlying54 rfl A0p ?_;refine wpList_step fun K hK=> ?_
    rw[if_pos (by rfl)];go_step;refine hK _ _ ?_;clear hK K;refine wpList_store_row rfl _ _ _ rfl _ _ rfl rfl _ _ HS2.out.z A0p rfl (A9f _) ?_
    go_wp2_with fail
    refine bodyPost_ret (A0d rfl _ _ (w.heap.size+1) A1v (IN.cells _).toArray (0,0) _ rfl (setRow_heap _ _ _ _ _ _ HS2.out.z) Tryz.underlying54 rfl A0p) rfl ?_
    exact⟨_,_,rfl,HCC.out.symm,(fun _=>HVV.out.symm),HS2.out.done _⟩
   have v2:=D7k H20.out (show(kAt K r.a.toNat).tag≠3 by rw[<-hc];exact h3) (show(kAt K r.a.toNat).tag≠8 by rw[<-hc];exact h8)
   have e8:(c.tag==8)=false:=by rw[beq_eq_false_iff_ne];exact h8
   have HCC:=hzz (HCC0.out.trans v2);clear hc h3 h8 v2 HVV0 HCC0
   go_upto_region 24 with fail
   refine wp_region_lit ?_;refine A0i rfl _ _ rfl _ rfl _ _ _ _ HS0.out.x Tryz.underlying54 rfl A0p ?_;refine wpList_store_row rfl _ _ _ rfl _ _ rfl rfl _ _ HS0.out.z A0p rfl (A9f _) ?_
   go_wp2_with fail
   refine bodyPost_ret (A0d rfl _ _ (w.heap.size+1) A1v (IN.cells _).toArray (0,0) _ rfl (setRow_heap _ _ _ _ _ _ HS0.out.z) Tryz.underlying54 rfl A0p) rfl ?_
   exact⟨_,_,rfl,HCC.out.symm,(fun h=>absurd h (by decide)),HS0.out.done _⟩
  have hlz:decide (r.a<(n:Int))=false:=by simp;omega
  have hk:(kAt K r.a.toNat).tag=0:=by
   unfold kAt;have hl:=HKS.out.1;rw[List.getD_eq_getElem?_getD,List.getElem?_eq_none (by omega)];rfl
  have v2:=D7k H20.out (by rw[hk];decide) (by rw[hk];decide);have HCC:=hzz (HCC0.out.trans v2);clear hk v2 HVV0 HCC0 hlt
  go_upto_region 24 with fail
  refine wp_region_lit ?_;refine A0i rfl _ _ rfl _ rfl _ _ _ _ HS0.out.x Tryz.underlying54 rfl A0p ?_;refine wpList_store_row rfl _ _ _ rfl _ _ rfl rfl _ _ HS0.out.z A0p rfl (A9f _) ?_
  go_wp2_with fail
  refine bodyPost_ret (A0d rfl _ _ (w.heap.size+1) A1v (IN.cells _).toArray (0,0) _ rfl (setRow_heap _ _ _ _ _ _ HS0.out.z) Tryz.underlying54 rfl A0p) rfl ?_
  exact⟨_,_,rfl,HCC.out.symm,(fun h=>absurd h (by decide)),HS0.out.done _⟩
 have HVV:=hzz (show V=D9q K r from HV.out);have HCC:=hzz (show C=D4p K r from HC.out);obtain⟨ra0,ra1⟩:=HRA.out (.inr HFF.out.symm)
 have HNM:=hzz (C9d W a n cap K r HS0.out.k HNN.out HTX.out HOP.out ⟨ra0,ra1⟩);clear HV HC HIX HRA HST;rw[<-HVV.out,<-HCC.out]at HNM
 go_upto_region 25 with fail
 go_wp2_with fail
 refine HNM.out.mono ?_;rintro e w9 ⟨x9,ok,rfl,hok,hx,hb⟩;have HS1:=hzz (HS0.out.below hb);have HOK:=hzz hok;have HX:=hzz hx;clear hb HS0 i0 i1 i2 i3 i4 i5 i6 f1 f2 f3 f4 f5 f6 r0 r1 r2 r3 hok hx HNM
 obtain⟨o9,n9,m9,cl9,nm9,ds9,tx9⟩:=x9;obtain⟨i0,i1,i2,i3,i4,i5,i6,f1,f2,f3,f4,f5,f6⟩:=HS1.out.z.box;have f0:=A1b HS1.out.z 0;dsimp only[IN.cells]
 go_wp2_with fail
 have b6:=(((((((show A3u (w.heap.size+1) ⟨o9,0,0,[],[],[],[]⟩ _ from A1e HS1.out.z 0 (.int .u8 (o9:Nat))).set1 n9).set2 m9).set3 cl9).set4 nm9).set5 ds9).set6 tx9)
 have hb9:=(((((((HS1.out.b.setCell (p:=⟨w.heap.size+1,0,none⟩) (show w.heap.size<=w.heap.size+1 by omega) (.int .u8 (o9:Nat))).setCell (p:=⟨w.heap.size+1,1,none⟩) (show w.heap.size<=w.heap.size+1 by omega) (.int .i64 n9)).setCell (p:=⟨w.heap.size+1,2,none⟩) (show w.heap.size<=w.heap.size+1 by omega) (.int .i64 m9)).setCell (p:=⟨w.heap.size+1,3,none⟩) (show w.heap.size<=w.heap.size+1 by omega) (.string ⟨cl9.toArray⟩)).setCell (p:=⟨w.heap.size+1,4,none⟩) (show w.heap.size<=w.heap.size+1 by omega) (.string ⟨nm9.toArray⟩)).setCell (p:=⟨w.heap.size+1,5,none⟩) (show w.heap.size<=w.heap.size+1 by omega) (.string ⟨ds9.toArray⟩)).setCell (p:=⟨w.heap.size+1,6,none⟩) (show w.heap.size<=w.heap.size+1 by omega) (.string ⟨tx9.toArray⟩))
 refine bodyPost_ret (A0d rfl _ _ (w.heap.size+1) A1v (IN.cells ⟨o9,n9,m9,cl9,nm9,ds9,tx9⟩).toArray (0,0) _ rfl b6 Tryz.underlying54 rfl A0p) rfl ?_
 exact⟨⟨o9,n9,m9,cl9,nm9,ds9,tx9⟩,ok,rfl,HOK.out,HX.out,hb9⟩
end
end Go.Proofs.YtclpkipaehpkdaaGreatDoor
