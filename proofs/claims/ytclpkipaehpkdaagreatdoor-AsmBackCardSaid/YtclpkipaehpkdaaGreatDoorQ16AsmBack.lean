/- asm -/
import Derived.Test.YtclpkipaehpkdaaGreatDoorQ15AsmBack
set_option linter.unusedVariables false
set_option linter.unusedSimpArgs false
set_option maxRecDepth 100000
set_option maxHeartbeats 64000000
open Go.Proofs.Tryz
namespace Go.Proofs.YtclpkipaehpkdaaGreatDoor
section
open Go.ChangeShapes Go.WideShapes Go.ChangeAt Go.RowKit
structure NmS(w wx:World)(a:Option Addr)(n:Nat)(K:List KV)(r:RW)(x:IN):Prop where
 r:wx.heap[w.heap.size]? =some (.cells r.cells.toArray 118 (0,0))
 x:yJ (w.heap.size+1) x wx
 z:yJ (w.heap.size+2) ⟨0,0,0,[],[],[],[]⟩ wx
 k:Ks wx a n K
 b:Below w.heap.size w wx
theorem NmS.below{w wx w9:World}{a:Option Addr}{n:Nat}{K:List KV}{r:RW}{x:IN}(h:NmS w wx a n K r x)(hb:Below wx.heap.size wx w9):NmS w w9 a n K r x:=
 ⟨yW h.r hb,h.x.below hb,h.z.below hb,h.k.below hb,h.b.trans (hb.mono h.b.size)⟩
theorem NmS.put{w wx:World}{a:Option Addr}{n:Nat}{K:List KV}{r:RW}{x x':IN}(h:NmS w wx a n K r x)(hK:Ks w a n K)(o:Nat)(v:Value)(hi:yJ (w.heap.size+1) x' (wx.setCell ⟨w.heap.size+1,o,none⟩ v)):NmS w (wx.setCell ⟨w.heap.size+1,o,none⟩ v) a n K r x':=by
 have hb:Below w.heap.size w (wx.setCell ⟨w.heap.size+1,o,none⟩ v):=h.b.setCell (show w.heap.size<=w.heap.size+1 by omega) v;exact⟨wQ h.r (by omega) o v,hi,wQ h.z (by omega) o v,hK.below hb,hb⟩
theorem NmS.done{w wx:World}{a:Option Addr}{n:Nat}{K:List KV}{r:RW}{x:IN}(h:NmS w wx a n K r x)(cs:Array Value):Below w.heap.size w (wx.setRow (w.heap.size+2) cs):=
 (yZ.setrow (yZ.refl (fun k=>k=w.heap.size+2) wx) (.inl rfl) cs).below h.b Z5 (fun k hk=>by omega)
def rC(K:List KV)(r:RW):IN:=
 if r.op=20 then xG K (yL r) r.a.toNat else if wK r.op then vi K (yL r) r.a 9 else if vB r.op then vi K (yL r) r.a 10 else{yL r with cl:=(yQ K r.a).1}
def sJ(K:List KV)(r:RW):Bool:=
 if r.op=20 then xj (xG K (yL r) r.a.toNat)else if wK r.op then vJ typeB K r.a 9 else if vB r.op then vJ xY K r.a 10 else aclsB K r.a (decide (r.op≠187))
def ff(V:IN)(C:Bool)(w:World)(e:Ending)(w':World):Prop:=∃(x:IN) (ok:Bool),e= .returned (.tuple #[.agg x.cells.toArray,.bool ok])/\ok=C/\(ok=true->x=V)/\Below w.heap.size w w'
theorem E6s{K:List KV}{r:RW}(WR:r.op=20)(h5:(kAt K r.a.toNat).tag=5):xG K (yL r) r.a.toNat={yL r with ds:=[74],n:=(kAt K r.a.toNat).n}/\xj (xG K (yL r) r.a.toNat)=true:=by
 have e:xG K (yL r) r.a.toNat={yL r with ds:=[74],n:=(kAt K r.a.toNat).n}:=by
  unfold xG;rw[if_neg (by omega),if_pos h5]
 refine⟨e,?_⟩;rw[e];simp[xj,yL,WR]
theorem fe{K:List KV}{r:RW}(WR:r.op=20)(h5:(kAt K r.a.toNat).tag≠5):xj (xG K (yL r) r.a.toNat)=false:=by
 unfold xG;split
 ·simp[xj,yL,WR]
 split
 ·simp[xj,yL,WR]
 simp[xj,yL]
def QN(s b o:Nat)(r:RW)(v:Int)(w:World):Prop:=w.heap[s]? =some (.cells r.cells.toArray 118 (0,0))/\w.cell? ⟨b,o,none⟩=some (.int .i64 v)
def SX(w:World)(r:RW)(x:IN)(y:World):Prop:=y.heap[w.heap.size]? =some (.cells r.cells.toArray 118 (0,0))/\yJ (w.heap.size+1) x y
theorem SX.below{w y y':World}{r:RW}{x:IN}(h:SX w r x y)(hb:Below y.heap.size y y'):SX w r x y':=⟨yW h.1 hb,h.2.below hb⟩
theorem SX.setrow{w y:World}{r:RW}{x:IN}(h:SX w r x y)(cs:Array Value):SX w r x (y.setRow (w.heap.size+2) cs):=
 ⟨by rw[setRow_other _ _ _ _ (by omega)];exact h.1,by unfold yJ;rw[setRow_other _ _ _ _ (by omega)];exact h.2⟩
theorem bk(w:World)(a:Option Addr)(n cap:Nat)(K:List KV)(r:RW)(hs:Ks w a n K)(hn:n<=65536)(Zb:∀i:Int,(kAt K i).s.length<=65536)(Zx:r.op<256)(Yw:0<=r.a/\r.a<1048576):
  Calls prog 117 #[.slice a n cap,.agg #[.int .i64 r.pos,.int .u8 (r.op:Nat),.int .i64 r.a,.int .i64 r.b],.agg #[.int .u8 (r.op:Nat),.int .i64 0,.int .i64 0,.string ⟨#[]⟩,.string ⟨#[]⟩,.string ⟨#[]⟩,.string ⟨#[]⟩]] w (ff (rC K r) (sJ K r) w):=by
 have Xu:=Z' hs;have Zg:=Z' hn;have Yn:=Z' Zb;have UG:Below w.heap.size w (((w.alloc (.cells #[.int .i64 r.pos,.int .u8 (r.op:Nat),.int .i64 r.a,.int .i64 r.b] 118)).alloc (.cells #[.int .u8 (r.op:Nat),.int .i64 0,.int .i64 0,.string ⟨#[]⟩,.string ⟨#[]⟩,.string ⟨#[]⟩,.string ⟨#[]⟩] yU)).alloc (.cells #[.int .u8 0,.int .i64 0,.int .i64 0,.string ⟨#[]⟩,.string ⟨#[]⟩,.string ⟨#[]⟩,.string ⟨#[]⟩] yU)):=(((Below.refl w.heap.size w).alloc Z5 _).alloc (by simp) _).alloc (by simp;omega) _
 have YZ:=Z9 (NmS w (((w.alloc (.cells #[.int .i64 r.pos,.int .u8 (r.op:Nat),.int .i64 r.a,.int .i64 r.b] 118)).alloc (.cells #[.int .u8 (r.op:Nat),.int .i64 0,.int .i64 0,.string ⟨#[]⟩,.string ⟨#[]⟩,.string ⟨#[]⟩,.string ⟨#[]⟩] yU)).alloc (.cells #[.int .u8 0,.int .i64 0,.int .i64 0,.string ⟨#[]⟩,.string ⟨#[]⟩,.string ⟨#[]⟩,.string ⟨#[]⟩] yU)) a n K r (yL r)) (⟨by
  rw[Below.heap_alloc _ _ _ (by simp;omega),Below.heap_alloc _ _ _ (by simp)];exact heap_alloc_last w _,by
  unfold yJ;rw[Below.heap_alloc _ _ _ (by simp)];have h:=heap_alloc_last (w.alloc (.cells #[.int .i64 r.pos,.int .u8 (r.op:Nat),.int .i64 r.a,.int .i64 r.b] 118)) (.cells #[.int .u8 (r.op:Nat),.int .i64 0,.int .i64 0,.string ⟨#[]⟩,.string ⟨#[]⟩,.string ⟨#[]⟩,.string ⟨#[]⟩] yU);have h2:((w.alloc (.cells #[.int .i64 r.pos,.int .u8 (r.op:Nat),.int .i64 r.a,.int .i64 r.b] 118)).alloc (.cells #[.int .u8 (r.op:Nat),.int .i64 0,.int .i64 0,.string ⟨#[]⟩,.string ⟨#[]⟩,.string ⟨#[]⟩,.string ⟨#[]⟩] yU)).heap[w.heap.size+1]? =some (.cells #[.int .u8 (r.op:Nat),.int .i64 0,.int .i64 0,.string ⟨#[]⟩,.string ⟨#[]⟩,.string ⟨#[]⟩,.string ⟨#[]⟩] yU):=by simpa using h
  exact h2,by
  have h:=heap_alloc_last ((w.alloc (.cells #[.int .i64 r.pos,.int .u8 (r.op:Nat),.int .i64 r.a,.int .i64 r.b] 118)).alloc (.cells #[.int .u8 (r.op:Nat),.int .i64 0,.int .i64 0,.string ⟨#[]⟩,.string ⟨#[]⟩,.string ⟨#[]⟩,.string ⟨#[]⟩] yU)) (.cells #[.int .u8 0,.int .i64 0,.int .i64 0,.string ⟨#[]⟩,.string ⟨#[]⟩,.string ⟨#[]⟩,.string ⟨#[]⟩] yU);have h2:(((w.alloc (.cells #[.int .i64 r.pos,.int .u8 (r.op:Nat),.int .i64 r.a,.int .i64 r.b] 118)).alloc (.cells #[.int .u8 (r.op:Nat),.int .i64 0,.int .i64 0,.string ⟨#[]⟩,.string ⟨#[]⟩,.string ⟨#[]⟩,.string ⟨#[]⟩] yU)).alloc (.cells #[.int .u8 0,.int .i64 0,.int .i64 0,.string ⟨#[]⟩,.string ⟨#[]⟩,.string ⟨#[]⟩,.string ⟨#[]⟩] yU)).heap[w.heap.size+2]? =some (.cells #[.int .u8 0,.int .i64 0,.int .i64 0,.string ⟨#[]⟩,.string ⟨#[]⟩,.string ⟨#[]⟩,.string ⟨#[]⟩] yU):=by simpa using h
  exact h2,hs.below UG,UG⟩)
 obtain⟨V,hV⟩:=Z8 (rC K r);obtain⟨C,hC⟩:=Z8 (sJ K r);rw[<-hV,<-hC];have HV:=Z' hV;have HC:=Z' hC;obtain⟨En,Gg⟩:=Yw;clear hs hn Zb UG hV hC;go_enter func117,ntmps117
 go_upto_region 2 with fail
 generalize(((w.alloc (.cells #[.int .i64 r.pos,.int .u8 (r.op:Nat),.int .i64 r.a,.int .i64 r.b] 118)).alloc (.cells #[.int .u8 (r.op:Nat),.int .i64 0,.int .i64 0,.string ⟨#[]⟩,.string ⟨#[]⟩,.string ⟨#[]⟩,.string ⟨#[]⟩] yU)).alloc (.cells #[.int .u8 0,.int .i64 0,.int .i64 0,.string ⟨#[]⟩,.string ⟨#[]⟩,.string ⟨#[]⟩,.string ⟨#[]⟩] yU))=W at*;obtain⟨i0,i1,i2,i3,i4,i5,i6,f1,f2,f3,f4,f5,f6⟩:=YZ.out.x.box;have r1:=y8 YZ.out.r 1 rfl;have r2:=y8 YZ.out.r 2 rfl;dsimp only[RW.cells,yL]at r1 r2 i0 i1 i2 i3 i4 i5 i6;by_cases Xp:r.op=20
 ·have Tg:((r.op:Int)==20)=true:=by rw[Xp];rfl
  have HO:=Z' Xp;by_cases ZX:r.a<n
  ·obtain⟨b,off,rfl,Zu,k0,k1,k2,k3,k4⟩:=YZ.out.k.at r.a.toNat (by omega);obtain⟨c,hc⟩:=Z8 (kAt K r.a.toNat);rw[<-hc]at k0 k1 k2 k3 k4;have MW:=Z' hc;by_cases h5:c.tag=5
   ·obtain⟨v1,v2⟩:=E6s Xp (show(kAt K r.a.toNat).tag=5 by rw[<-hc];exact h5);have e5:(c.tag==5)=true:=by rw[h5];rfl
    have Zm:=Z' (show V={yL r with ds:=[74],n:=(kAt K r.a.toNat).n} by rw[HV.out];unfold rC;rw[if_pos Xp];exact v1);have ZE:=Z' (show C=true by rw[HC.out];unfold sJ;rw[if_pos Xp];exact v2);have HH5:=Z' h5;rw[<-hc]at Zm;clear hc;have Hg:decide (r.a<(n:Int))=true:=by simp;omega
    clear Xp h5 v1 v2 HV HC
    go_upto_region 5 with fail
    have PA:=Z' (YZ.out.below (Z6.drew));have Z3:QN w.heap.size b (off+r.a.toNat*5+3) r c.n W.drew:=⟨PA.out.r,k3⟩;have l0:∀z,QN w.heap.size b (off+r.a.toNat*5+3) r c.n z->z.cell? ⟨w.heap.size,2,none⟩=some (.int .i64 r.a):=fun z h=>y8 h.1 2 rfl
    have l1:∀z,QN w.heap.size b (off+r.a.toNat*5+3) r c.n z->z.cell? ⟨b,off+r.a.toNat*5+3,none⟩=some (.int .i64 c.n):=fun z h=>h.2
    refine ye (QN w.heap.size b (off+r.a.toNat*5+3) r c.n) (.of [(0,true),(1,true),(2,true),(3,true),(4,true),(5,true),(6,true),(7,false),(8,true),(9,false)] (.stir [])) (by kernel_rfl) (by kernel_rfl) (fun c a d v w h=>by cases d<;>exact h) ?_
    generalize W.drew=W1 at*
    iterate 7
     refine yY fun K hK=>tkF ?_
     go_simp
     try go_bits
     refine hK _ _ ?_;clear hK K
    obtain⟨i0,i1,i2,i3,i4,i5,i6,f1,f2,f3,f4,f5,f6⟩:=PA.out.x.box;refine yY fun K hK=>alF ?_
    go_step;have ZJ:=Z' (PA.out.put Xu.out 5 _ (PA.out.x.set5 [74]));have Q3:yZ (fun k=>k=w.heap.size+1) W1 (W1.setCell ⟨w.heap.size+1,5,none⟩ (.string ⟨#[74]⟩)):=yZ.set (yZ.refl (fun k=>k=w.heap.size+1) W1) (.inl rfl) 5 _
    have ZZ:QN w.heap.size b (off+r.a.toNat*5+3) r c.n (W1.setCell ⟨w.heap.size+1,5,none⟩ (.string ⟨#[74]⟩)):=⟨ZJ.out.r,by
     obtain⟨b2,Zf,e,_,_,_,_,q3,_⟩:=ZJ.out.k.at r.a.toNat (by omega)
     cases e
     rw[<-MW.out]at q3;exact q3⟩
    refine⟨ZZ,hK _ _ ?_⟩;clear hK K Z3 i0 i1 i2 i3 i4 i5 i6 f1 f2 f3 f4 f5 f6 Q3;have Z3:=ZZ;clear ZZ
    iterate 1
     refine yY fun K hK=>tkF ?_
     go_simp
     try go_bits
     refine hK _ _ ?_;clear hK K
    obtain⟨i0,i1,i2,i3,i4,i5,i6,f1,f2,f3,f4,f5,f6⟩:=ZJ.out.x.box;dsimp only[yL]at i0 i1 i2 i3 i4 i5 i6;refine yY fun K hK=>alF ?_
    go_step;have Yg:=Z' (ZJ.out.put Xu.out 1 _ (ZJ.out.x.set1 c.n))
    have ZZ:QN w.heap.size b (off+r.a.toNat*5+3) r c.n ((W1.setCell ⟨w.heap.size+1,5,none⟩ (.string ⟨#[74]⟩)).setCell ⟨w.heap.size+1,1,none⟩ (.int .i64 c.n)):=⟨Yg.out.r,by
     obtain⟨b2,Zf,e,_,_,_,_,q3,_⟩:=Yg.out.k.at r.a.toNat (by omega)
     cases e
     rw[<-MW.out]at q3;exact q3⟩
    refine⟨ZZ,hK _ _ ?_⟩;clear hK K Z3 i0 i1 i2 i3 i4 i5 i6 f1 f2 f3 f4 f5 f6;generalize(W1.setCell ⟨w.heap.size+1,5,none⟩ (.string ⟨#[74]⟩)).setCell ⟨w.heap.size+1,1,none⟩ (.int .i64 c.n)=W2 at*;refine yA (fun y=>y=W2) (fun y hy=>hy▸ZZ) rfl ?_;refine yE (fun y hy=> ?_);obtain rfl:W2=y:=Eq.symm hy;clear ZZ l0 l1
    go_upto_region 6 with fail
    refine wp_region_lit ?_;refine xN rfl _ _ rfl _ rfl _ _ _ _ Yg.out.x underlying54 rfl yP ?_;refine wpList_store_row rfl _ _ _ rfl _ _ rfl rfl _ _ Yg.out.z yP rfl (xD _) ?_
    go_wp2_with fail
    refine bodyPost_ret (x8 rfl _ _ (w.heap.size+2) yU (IN.cells _).toArray (0,0) _ rfl (setRow_heap _ _ _ _ _ _ Yg.out.z) underlying54 rfl yP) rfl ?_;exact⟨_,_,rfl,ZE.out.symm,fun _=>Zm.out.symm,Yg.out.done _⟩
   have v2:=fe Xp (show(kAt K r.a.toNat).tag≠5 by rw[<-hc];exact h5);have e5:(c.tag==5)=false:=by rw[beq_eq_false_iff_ne];exact h5
   have ZE:=Z' (show C=false by rw[HC.out];unfold sJ;rw[if_pos Xp];exact v2);have Hg:decide (r.a<(n:Int))=true:=by simp;omega
   clear hc Xp h5 v2 HV HC
   go_upto_region 7 with fail
   refine wp_region_lit ?_;refine xN rfl _ _ rfl _ rfl _ _ _ _ YZ.out.x underlying54 rfl yP ?_;refine wpList_store_row rfl _ _ _ rfl _ _ rfl rfl _ _ YZ.out.z yP rfl (xD _) ?_
   go_wp2_with fail
   refine bodyPost_ret (x8 rfl _ _ (w.heap.size+2) yU (IN.cells _).toArray (0,0) _ rfl (setRow_heap _ _ _ _ _ _ YZ.out.z) underlying54 rfl yP) rfl ?_;exact⟨_,_,rfl,ZE.out.symm,(fun h=>absurd h (by decide)),YZ.out.done _⟩
  have h5:(kAt K r.a.toNat).tag≠5:=by
   unfold kAt;have hl:=Xu.out.1;rw[List.getD_eq_getElem?_getD,List.getElem?_eq_none (by omega)];simp[kz]
  have v2:=fe Xp h5;have ZE:=Z' (show C=false by rw[HC.out];unfold sJ;rw[if_pos Xp];exact v2);have Hg:decide (r.a<(n:Int))=false:=by simp;omega
  clear Xp h5 v2 HV HC
  go_upto_region 7 with fail
  refine wp_region_lit ?_;refine xN rfl _ _ rfl _ rfl _ _ _ _ YZ.out.x underlying54 rfl yP ?_;refine wpList_store_row rfl _ _ _ rfl _ _ rfl rfl _ _ YZ.out.z yP rfl (xD _) ?_
  go_wp2_with fail
  refine bodyPost_ret (x8 rfl _ _ (w.heap.size+2) yU (IN.cells _).toArray (0,0) _ rfl (setRow_heap _ _ _ _ _ _ YZ.out.z) underlying54 rfl yP) rfl ?_;exact⟨_,_,rfl,ZE.out.symm,(fun h=>absurd h (by decide)),YZ.out.done _⟩
 have Tg:((r.op:Int)==20)=false:=by rw[beq_eq_false_iff_ne];omega
 by_cases hm:wK r.op=true
 ·have N4:r.op=178\/r.op=179\/r.op=180\/r.op=181:=by simpa[wK]using hm
  have Zm:=Z' (show V=vi K (yL r) r.a 9 by rw[HV.out];unfold rC;rw[if_neg Xp,if_pos hm]);have ZE:=Z' (show C=vJ typeB K r.a 9 by rw[HC.out];unfold sJ;rw[if_neg Xp,if_pos hm]);have HM:=Z' (jW W a n cap K r.a 9 YZ.out.k Zg.out);have Xx:=Z' (pN Yn.out r.a 9);unfold wu at HM;unfold vi at Zm;unfold vJ at ZE;obtain⟨M,hM⟩:=Z8 (xu K r.a 9);rw[<-hM]at HM Xx Zm ZE;dsimp only[yL]at Zm;clear hM HV HC Xp
  rcases N4 with o|o|o|o
  all_goals
   have HO:=Z' o
   first|have TN:((r.op:Int)==178)=true:=(by rw[o];rfl)|have TN:((r.op:Int)==178)=false:=(by rw[o];rfl)
   first|have TT:((r.op:Int)==179)=true:=(by rw[o];rfl)|have TT:((r.op:Int)==179)=false:=(by rw[o];rfl)
   first|have TH:((r.op:Int)==180)=true:=(by rw[o];rfl)|have TH:((r.op:Int)==180)=false:=(by rw[o];rfl)
   first|have TR:((r.op:Int)==181)=true:=(by rw[o];rfl)|have TR:((r.op:Int)==181)=false:=(by rw[o];rfl)
   first|have TK:((r.op:Int)==182)=true:=(by rw[o];rfl)|have TK:((r.op:Int)==182)=false:=(by rw[o];rfl)
   first|have TY:((r.op:Int)==184)=true:=(by rw[o];rfl)|have TY:((r.op:Int)==184)=false:=(by rw[o];rfl)
   clear o hm;obtain⟨ZP,Zs,Zq,b0⟩:=M;dsimp only at HM Xx Zm ZE;obtain⟨n1,n2,n3⟩:=Xx.out;have SM:=Z' (fun W=>tu W ZP (by omega));have WF:=Z' (fun W=>pG W Zs n2);have Kh:=Z' (fun W=>qL W Zq n3);clear n1 n2 n3;generalize classB ZP=b1 at*;generalize yk Zs=b2 at*;generalize typeB Zq=b3 at*
   go_upto_region 12 with fail
   go_wp2_with fail
   refine HM.out.mono ?_;rintro e w1 ⟨rfl,ZQ⟩;have ZJ:=Z' (YZ.out.below ZQ);clear ZQ i0 i1 i2 i3 i4 i5 i6 f1 f2 f3 f4 f5 f6 r1 r2 YZ HM;obtain⟨i0,i1,i2,i3,i4,i5,i6,f1,f2,f3,f4,f5,f6⟩:=ZJ.out.x.box;dsimp only[yL]at i0 i1 i2 i3 i4 i5 i6
   go_upto_region 13 with fail
   have Yg:=Z' (ZJ.out.put Xu.out 3 _ (ZJ.out.x.set3 ZP));have Vt:=Z' (Yg.out.put Xu.out 4 _ (Yg.out.x.set4 Zs));have T8:=Z' (Vt.out.put Xu.out 5 _ (Vt.out.x.set5 Zq));clear ZJ Yg Vt i0 i1 i2 i3 i4 i5 i6 f1 f2 f3 f4 f5 f6;dsimp only[yL]at T8;generalize((w1.setCell ⟨w.heap.size+1,3,none⟩ (.string ⟨ZP.toArray⟩)).setCell ⟨w.heap.size+1,4,none⟩ (.string ⟨Zs.toArray⟩)).setCell ⟨w.heap.size+1,5,none⟩ (.string ⟨Zq.toArray⟩)=W2 at*;have HT:=Z' (T8.out.below (Z6.drew));have Z3:SX w r (⟨r.op,0,0,ZP,Zs,Zq,[]⟩:IN) W2.drew:=⟨HT.out.r,HT.out.x⟩;have l0:∀z,SX w r (⟨r.op,0,0,ZP,Zs,Zq,[]⟩:IN) z->z.cell? ⟨w.heap.size+1,0,none⟩=some (.int .u8 (r.op:Nat)):=fun z h=>h.2.box.c0
   have l1:∀z,SX w r (⟨r.op,0,0,ZP,Zs,Zq,[]⟩:IN) z->z.cell? ⟨w.heap.size+1,1,none⟩=some (.int .i64 0):=fun z h=>h.2.box.c1
   have l2:∀z,SX w r (⟨r.op,0,0,ZP,Zs,Zq,[]⟩:IN) z->z.cell? ⟨w.heap.size+1,2,none⟩=some (.int .i64 0):=fun z h=>h.2.box.c2
   have l3:∀z,SX w r (⟨r.op,0,0,ZP,Zs,Zq,[]⟩:IN) z->z.cell? ⟨w.heap.size+1,3,none⟩=some (.string ⟨ZP.toArray⟩):=fun z h=>h.2.box.c3
   have l4:∀z,SX w r (⟨r.op,0,0,ZP,Zs,Zq,[]⟩:IN) z->z.cell? ⟨w.heap.size+1,4,none⟩=some (.string ⟨Zs.toArray⟩):=fun z h=>h.2.box.c4
   have l5:∀z,SX w r (⟨r.op,0,0,ZP,Zs,Zq,[]⟩:IN) z->z.cell? ⟨w.heap.size+1,5,none⟩=some (.string ⟨Zq.toArray⟩):=fun z h=>h.2.box.c5
   have l6:∀z,SX w r (⟨r.op,0,0,ZP,Zs,Zq,[]⟩:IN) z->z.cell? ⟨w.heap.size+1,6,none⟩=some (.string ⟨#[]⟩):=fun z h=>h.2.box.c6
   refine ye (SX w r (⟨r.op,0,0,ZP,Zs,Zq,[]⟩:IN)) (.of [(0,true),(1,true),(2,true),(3,true),(4,true),(5,false),(6,true),(7,true),(8,true),(9,true),(10,false),(11,true),(12,true),(13,true),(14,true),(15,false),(16,true),(17,false)] (.stir [(18,true)])) (by kernel_rfl) (by kernel_rfl) (fun c a d v w h=>by cases d<;>exact h) ?_
   clear T8;generalize W2.drew=W3 at*
   iterate 3
    refine yY fun K hK=>tkF ?_
    go_simp
    try go_bits
    refine hK _ _ ?_;clear hK K
   cases b0
   ·iterate 3
     refine yY fun K hK=>skF ?_
     go_simp;refine hK _ _ ?_;clear hK K
    iterate 2
     refine yY fun K hK=>tkF ?_
     go_simp
     try go_bits
     refine hK _ _ ?_;clear hK K
    iterate 3
     refine yY fun K hK=>skF ?_
     go_simp;refine hK _ _ ?_;clear hK K
    iterate 2
     refine yY fun K hK=>tkF ?_
     go_simp
     try go_bits
     refine hK _ _ ?_;clear hK K
    iterate 3
     refine yY fun K hK=>skF ?_
     go_simp;refine hK _ _ ?_;clear hK K
    iterate 1
     refine yY fun K hK=>tkF ?_
     go_simp
     try go_bits
     refine hK _ _ ?_;clear hK K
    refine yY fun K hK=>alF ?_
    refine wp_store_row yU _ _ rfl (w.heap.size+2) (IN.cells (⟨r.op,0,0,ZP,Zs,Zq,[]⟩:IN)).toArray rfl rfl yU _ HT.out.z yP rfl (xD (⟨r.op,0,0,ZP,Zs,Zq,[]⟩:IN)) ?_;have ZZ:SX w r (⟨r.op,0,0,ZP,Zs,Zq,[]⟩:IN) (W3.setRow (w.heap.size+2) (IN.cells (⟨r.op,0,0,ZP,Zs,Zq,[]⟩:IN)).toArray):=Z3.setrow _;refine⟨ZZ,hK _ _ ?_⟩;clear hK K Z3;refine yA (fun y=>y=W3.setRow (w.heap.size+2) (IN.cells (⟨r.op,0,0,ZP,Zs,Zq,[]⟩:IN)).toArray) (fun y hy=>hy▸ZZ) rfl ?_
    iterate 1
     refine yH fun K hK=>tkX ?_
     go_simp
     try go_bits
     refine hK _ ?_;clear hK K
    refine yE (fun y hy=> ?_);obtain rfl:W3.setRow (w.heap.size+2) (IN.cells (⟨r.op,0,0,ZP,Zs,Zq,[]⟩:IN)).toArray=y:=Eq.symm hy
    go_wp2_with fail
    refine bodyPost_ret (x8 rfl _ _ (w.heap.size+2) yU (IN.cells (⟨r.op,0,0,ZP,Zs,Zq,[]⟩:IN)).toArray (0,0) _ rfl (setRow_heap _ _ _ _ _ _ HT.out.z) underlying54 rfl yP) rfl ?_;exact⟨(⟨r.op,0,0,ZP,Zs,Zq,[]⟩:IN),false,rfl,(by rw[ZE.out];rfl),(fun _=>Zm.out.symm),HT.out.done _⟩
   ·iterate 2
     refine yY fun K hK=>tkF ?_
     go_simp
     try go_bits
     refine hK _ _ ?_;clear hK K
    refine yY fun K hK=>alF ?_
    go_step;refine(SM.out W3).mono ?_;rintro e w9 ⟨rfl,VK⟩;obtain rfl:W3=w9:=Eq.symm VK;go_simp
    first|refine⟨Z3,hK _ _ ?_⟩|refine hK _ _ ?_
    clear hK K
    iterate 2
     refine yY fun K hK=>tkF ?_
     go_simp
     try go_bits
     refine hK _ _ ?_;clear hK K
    cases b1
    ·iterate 3
      refine yY fun K hK=>skF ?_
      go_simp;refine hK _ _ ?_;clear hK K
     iterate 2
      refine yY fun K hK=>tkF ?_
      go_simp
      try go_bits
      refine hK _ _ ?_;clear hK K
     iterate 3
      refine yY fun K hK=>skF ?_
      go_simp;refine hK _ _ ?_;clear hK K
     iterate 1
      refine yY fun K hK=>tkF ?_
      go_simp
      try go_bits
      refine hK _ _ ?_;clear hK K
     refine yY fun K hK=>alF ?_
     refine wp_store_row yU _ _ rfl (w.heap.size+2) (IN.cells (⟨r.op,0,0,ZP,Zs,Zq,[]⟩:IN)).toArray rfl rfl yU _ HT.out.z yP rfl (xD (⟨r.op,0,0,ZP,Zs,Zq,[]⟩:IN)) ?_;have ZZ:SX w r (⟨r.op,0,0,ZP,Zs,Zq,[]⟩:IN) (W3.setRow (w.heap.size+2) (IN.cells (⟨r.op,0,0,ZP,Zs,Zq,[]⟩:IN)).toArray):=Z3.setrow _;refine⟨ZZ,hK _ _ ?_⟩;clear hK K Z3;refine yA (fun y=>y=W3.setRow (w.heap.size+2) (IN.cells (⟨r.op,0,0,ZP,Zs,Zq,[]⟩:IN)).toArray) (fun y hy=>hy▸ZZ) rfl ?_
     iterate 1
      refine yH fun K hK=>tkX ?_
      go_simp
      try go_bits
      refine hK _ ?_;clear hK K
     refine yE (fun y hy=> ?_);obtain rfl:W3.setRow (w.heap.size+2) (IN.cells (⟨r.op,0,0,ZP,Zs,Zq,[]⟩:IN)).toArray=y:=Eq.symm hy
     go_wp2_with fail
     refine bodyPost_ret (x8 rfl _ _ (w.heap.size+2) yU (IN.cells (⟨r.op,0,0,ZP,Zs,Zq,[]⟩:IN)).toArray (0,0) _ rfl (setRow_heap _ _ _ _ _ _ HT.out.z) underlying54 rfl yP) rfl ?_;exact⟨(⟨r.op,0,0,ZP,Zs,Zq,[]⟩:IN),false,rfl,(by rw[ZE.out];rfl),(fun _=>Zm.out.symm),HT.out.done _⟩
    iterate 2
     refine yY fun K hK=>tkF ?_
     go_simp
     try go_bits
     refine hK _ _ ?_;clear hK K
    refine yY fun K hK=>alF ?_
    go_step;refine(WF.out W3).mono ?_;rintro e w9 ⟨rfl,VK⟩;obtain rfl:W3=w9:=Eq.symm VK;go_simp
    first|refine⟨Z3,hK _ _ ?_⟩|refine hK _ _ ?_
    clear hK K
    iterate 2
     refine yY fun K hK=>tkF ?_
     go_simp
     try go_bits
     refine hK _ _ ?_;clear hK K
    cases b2
    ·iterate 3
      refine yY fun K hK=>skF ?_
      go_simp;refine hK _ _ ?_;clear hK K
     iterate 1
      refine yY fun K hK=>tkF ?_
      go_simp
      try go_bits
      refine hK _ _ ?_;clear hK K
     refine yY fun K hK=>alF ?_
     refine wp_store_row yU _ _ rfl (w.heap.size+2) (IN.cells (⟨r.op,0,0,ZP,Zs,Zq,[]⟩:IN)).toArray rfl rfl yU _ HT.out.z yP rfl (xD (⟨r.op,0,0,ZP,Zs,Zq,[]⟩:IN)) ?_;have ZZ:SX w r (⟨r.op,0,0,ZP,Zs,Zq,[]⟩:IN) (W3.setRow (w.heap.size+2) (IN.cells (⟨r.op,0,0,ZP,Zs,Zq,[]⟩:IN)).toArray):=Z3.setrow _;refine⟨ZZ,hK _ _ ?_⟩;clear hK K Z3;refine yA (fun y=>y=W3.setRow (w.heap.size+2) (IN.cells (⟨r.op,0,0,ZP,Zs,Zq,[]⟩:IN)).toArray) (fun y hy=>hy▸ZZ) rfl ?_
     iterate 1
      refine yH fun K hK=>tkX ?_
      go_simp
      try go_bits
      refine hK _ ?_;clear hK K
     refine yE (fun y hy=> ?_);obtain rfl:W3.setRow (w.heap.size+2) (IN.cells (⟨r.op,0,0,ZP,Zs,Zq,[]⟩:IN)).toArray=y:=Eq.symm hy
     go_wp2_with fail
     refine bodyPost_ret (x8 rfl _ _ (w.heap.size+2) yU (IN.cells (⟨r.op,0,0,ZP,Zs,Zq,[]⟩:IN)).toArray (0,0) _ rfl (setRow_heap _ _ _ _ _ _ HT.out.z) underlying54 rfl yP) rfl ?_;exact⟨(⟨r.op,0,0,ZP,Zs,Zq,[]⟩:IN),false,rfl,(by rw[ZE.out];rfl),(fun _=>Zm.out.symm),HT.out.done _⟩
    iterate 2
     refine yY fun K hK=>tkF ?_
     go_simp
     try go_bits
     refine hK _ _ ?_;clear hK K
    refine yY fun K hK=>alF ?_
    go_step;refine(Kh.out W3).mono ?_;rintro e w9 ⟨rfl,VK⟩;obtain rfl:W3=w9:=Eq.symm VK;go_simp
    first|refine⟨Z3,hK _ _ ?_⟩|refine hK _ _ ?_
    clear hK K
    iterate 1
     refine yY fun K hK=>tkF ?_
     go_simp
     try go_bits
     refine hK _ _ ?_;clear hK K
    refine yY fun K hK=>alF ?_
    refine wp_store_row yU _ _ rfl (w.heap.size+2) (IN.cells (⟨r.op,0,0,ZP,Zs,Zq,[]⟩:IN)).toArray rfl rfl yU _ HT.out.z yP rfl (xD (⟨r.op,0,0,ZP,Zs,Zq,[]⟩:IN)) ?_;have ZZ:SX w r (⟨r.op,0,0,ZP,Zs,Zq,[]⟩:IN) (W3.setRow (w.heap.size+2) (IN.cells (⟨r.op,0,0,ZP,Zs,Zq,[]⟩:IN)).toArray):=Z3.setrow _;refine⟨ZZ,hK _ _ ?_⟩;clear hK K Z3;refine yA (fun y=>y=W3.setRow (w.heap.size+2) (IN.cells (⟨r.op,0,0,ZP,Zs,Zq,[]⟩:IN)).toArray) (fun y hy=>hy▸ZZ) rfl ?_
    iterate 1
     refine yH fun K hK=>tkX ?_
     go_simp
     try go_bits
     refine hK _ ?_;clear hK K
    refine yE (fun y hy=> ?_);obtain rfl:W3.setRow (w.heap.size+2) (IN.cells (⟨r.op,0,0,ZP,Zs,Zq,[]⟩:IN)).toArray=y:=Eq.symm hy
    go_wp2_with fail
    refine bodyPost_ret (x8 rfl _ _ (w.heap.size+2) yU (IN.cells (⟨r.op,0,0,ZP,Zs,Zq,[]⟩:IN)).toArray (0,0) _ rfl (setRow_heap _ _ _ _ _ _ HT.out.z) underlying54 rfl yP) rfl ?_;exact⟨(⟨r.op,0,0,ZP,Zs,Zq,[]⟩:IN),b3,rfl,(by rw[ZE.out];rfl),(fun _=>Zm.out.symm),HT.out.done _⟩
 by_cases hv:vB r.op=true
 ·have N4:r.op=182\/r.op=184:=by simpa[vB]using hv
  have Jn:=hm;have Zm:=Z' (show V=vi K (yL r) r.a 10 by rw[HV.out];unfold rC;rw[if_neg Xp,if_neg hm,if_pos hv]);have ZE:=Z' (show C=vJ xY K r.a 10 by rw[HC.out];unfold sJ;rw[if_neg Xp,if_neg hm,if_pos hv]);have HM:=Z' (jW W a n cap K r.a 10 YZ.out.k Zg.out);have Xx:=Z' (pN Yn.out r.a 10);unfold wu at HM;unfold vi at Zm;unfold vJ at ZE;obtain⟨M,hM⟩:=Z8 (xu K r.a 10);rw[<-hM]at HM Xx Zm ZE;dsimp only[yL]at Zm;clear hM HV HC Xp
  rcases N4 with o|o
  all_goals
   have HO:=Z' o
   first|have TN:((r.op:Int)==178)=true:=(by rw[o];rfl)|have TN:((r.op:Int)==178)=false:=(by rw[o];rfl)
   first|have TT:((r.op:Int)==179)=true:=(by rw[o];rfl)|have TT:((r.op:Int)==179)=false:=(by rw[o];rfl)
   first|have TH:((r.op:Int)==180)=true:=(by rw[o];rfl)|have TH:((r.op:Int)==180)=false:=(by rw[o];rfl)
   first|have TR:((r.op:Int)==181)=true:=(by rw[o];rfl)|have TR:((r.op:Int)==181)=false:=(by rw[o];rfl)
   first|have TK:((r.op:Int)==182)=true:=(by rw[o];rfl)|have TK:((r.op:Int)==182)=false:=(by rw[o];rfl)
   first|have TY:((r.op:Int)==184)=true:=(by rw[o];rfl)|have TY:((r.op:Int)==184)=false:=(by rw[o];rfl)
   clear o hm;obtain⟨ZP,Zs,Zq,b0⟩:=M;dsimp only at HM Xx Zm ZE;obtain⟨n1,n2,n3⟩:=Xx.out;have SM:=Z' (fun W=>tu W ZP (by omega));have WF:=Z' (fun W=>pG W Zs n2);have Kh:=Z' (fun W=>jU W Zq n3);clear n1 n2 n3;generalize classB ZP=b1 at*;generalize yk Zs=b2 at*;generalize xY Zq=b3 at*
   go_upto_region 16 with fail
   go_wp2_with fail
   refine HM.out.mono ?_;rintro e w1 ⟨rfl,ZQ⟩;have ZJ:=Z' (YZ.out.below ZQ);clear ZQ i0 i1 i2 i3 i4 i5 i6 f1 f2 f3 f4 f5 f6 r1 r2 YZ HM;obtain⟨i0,i1,i2,i3,i4,i5,i6,f1,f2,f3,f4,f5,f6⟩:=ZJ.out.x.box;dsimp only[yL]at i0 i1 i2 i3 i4 i5 i6
   go_upto_region 17 with fail
   have Yg:=Z' (ZJ.out.put Xu.out 3 _ (ZJ.out.x.set3 ZP));have Vt:=Z' (Yg.out.put Xu.out 4 _ (Yg.out.x.set4 Zs));have T8:=Z' (Vt.out.put Xu.out 5 _ (Vt.out.x.set5 Zq));clear ZJ Yg Vt i0 i1 i2 i3 i4 i5 i6 f1 f2 f3 f4 f5 f6;dsimp only[yL]at T8;generalize((w1.setCell ⟨w.heap.size+1,3,none⟩ (.string ⟨ZP.toArray⟩)).setCell ⟨w.heap.size+1,4,none⟩ (.string ⟨Zs.toArray⟩)).setCell ⟨w.heap.size+1,5,none⟩ (.string ⟨Zq.toArray⟩)=W2 at*;have HT:=Z' (T8.out.below (Z6.drew));have Z3:SX w r (⟨r.op,0,0,ZP,Zs,Zq,[]⟩:IN) W2.drew:=⟨HT.out.r,HT.out.x⟩;have l0:∀z,SX w r (⟨r.op,0,0,ZP,Zs,Zq,[]⟩:IN) z->z.cell? ⟨w.heap.size+1,0,none⟩=some (.int .u8 (r.op:Nat)):=fun z h=>h.2.box.c0
   have l1:∀z,SX w r (⟨r.op,0,0,ZP,Zs,Zq,[]⟩:IN) z->z.cell? ⟨w.heap.size+1,1,none⟩=some (.int .i64 0):=fun z h=>h.2.box.c1
   have l2:∀z,SX w r (⟨r.op,0,0,ZP,Zs,Zq,[]⟩:IN) z->z.cell? ⟨w.heap.size+1,2,none⟩=some (.int .i64 0):=fun z h=>h.2.box.c2
   have l3:∀z,SX w r (⟨r.op,0,0,ZP,Zs,Zq,[]⟩:IN) z->z.cell? ⟨w.heap.size+1,3,none⟩=some (.string ⟨ZP.toArray⟩):=fun z h=>h.2.box.c3
   have l4:∀z,SX w r (⟨r.op,0,0,ZP,Zs,Zq,[]⟩:IN) z->z.cell? ⟨w.heap.size+1,4,none⟩=some (.string ⟨Zs.toArray⟩):=fun z h=>h.2.box.c4
   have l5:∀z,SX w r (⟨r.op,0,0,ZP,Zs,Zq,[]⟩:IN) z->z.cell? ⟨w.heap.size+1,5,none⟩=some (.string ⟨Zq.toArray⟩):=fun z h=>h.2.box.c5
   have l6:∀z,SX w r (⟨r.op,0,0,ZP,Zs,Zq,[]⟩:IN) z->z.cell? ⟨w.heap.size+1,6,none⟩=some (.string ⟨#[]⟩):=fun z h=>h.2.box.c6
   refine ye (SX w r (⟨r.op,0,0,ZP,Zs,Zq,[]⟩:IN)) (.of [(0,true),(1,true),(2,true),(3,true),(4,true),(5,false),(6,true),(7,true),(8,true),(9,true),(10,false),(11,true),(12,true),(13,true),(14,true),(15,false),(16,true),(17,false)] (.stir [(18,true)])) (by kernel_rfl) (by kernel_rfl) (fun c a d v w h=>by cases d<;>exact h) ?_
   clear T8;generalize W2.drew=W3 at*
   iterate 3
    refine yY fun K hK=>tkF ?_
    go_simp
    try go_bits
    refine hK _ _ ?_;clear hK K
   cases b0
   ·iterate 3
     refine yY fun K hK=>skF ?_
     go_simp;refine hK _ _ ?_;clear hK K
    iterate 2
     refine yY fun K hK=>tkF ?_
     go_simp
     try go_bits
     refine hK _ _ ?_;clear hK K
    iterate 3
     refine yY fun K hK=>skF ?_
     go_simp;refine hK _ _ ?_;clear hK K
    iterate 2
     refine yY fun K hK=>tkF ?_
     go_simp
     try go_bits
     refine hK _ _ ?_;clear hK K
    iterate 3
     refine yY fun K hK=>skF ?_
     go_simp;refine hK _ _ ?_;clear hK K
    iterate 1
     refine yY fun K hK=>tkF ?_
     go_simp
     try go_bits
     refine hK _ _ ?_;clear hK K
    refine yY fun K hK=>alF ?_
    refine wp_store_row yU _ _ rfl (w.heap.size+2) (IN.cells (⟨r.op,0,0,ZP,Zs,Zq,[]⟩:IN)).toArray rfl rfl yU _ HT.out.z yP rfl (xD (⟨r.op,0,0,ZP,Zs,Zq,[]⟩:IN)) ?_;have ZZ:SX w r (⟨r.op,0,0,ZP,Zs,Zq,[]⟩:IN) (W3.setRow (w.heap.size+2) (IN.cells (⟨r.op,0,0,ZP,Zs,Zq,[]⟩:IN)).toArray):=Z3.setrow _;refine⟨ZZ,hK _ _ ?_⟩;clear hK K Z3;refine yA (fun y=>y=W3.setRow (w.heap.size+2) (IN.cells (⟨r.op,0,0,ZP,Zs,Zq,[]⟩:IN)).toArray) (fun y hy=>hy▸ZZ) rfl ?_
    iterate 1
     refine yH fun K hK=>tkX ?_
     go_simp
     try go_bits
     refine hK _ ?_;clear hK K
    refine yE (fun y hy=> ?_);obtain rfl:W3.setRow (w.heap.size+2) (IN.cells (⟨r.op,0,0,ZP,Zs,Zq,[]⟩:IN)).toArray=y:=Eq.symm hy
    go_wp2_with fail
    refine bodyPost_ret (x8 rfl _ _ (w.heap.size+2) yU (IN.cells (⟨r.op,0,0,ZP,Zs,Zq,[]⟩:IN)).toArray (0,0) _ rfl (setRow_heap _ _ _ _ _ _ HT.out.z) underlying54 rfl yP) rfl ?_;exact⟨(⟨r.op,0,0,ZP,Zs,Zq,[]⟩:IN),false,rfl,(by rw[ZE.out];rfl),(fun _=>Zm.out.symm),HT.out.done _⟩
   ·iterate 2
     refine yY fun K hK=>tkF ?_
     go_simp
     try go_bits
     refine hK _ _ ?_;clear hK K
    refine yY fun K hK=>alF ?_
    go_step;refine(SM.out W3).mono ?_;rintro e w9 ⟨rfl,VK⟩;obtain rfl:W3=w9:=Eq.symm VK;go_simp
    first|refine⟨Z3,hK _ _ ?_⟩|refine hK _ _ ?_
    clear hK K
    iterate 2
     refine yY fun K hK=>tkF ?_
     go_simp
     try go_bits
     refine hK _ _ ?_;clear hK K
    cases b1
    ·iterate 3
      refine yY fun K hK=>skF ?_
      go_simp;refine hK _ _ ?_;clear hK K
     iterate 2
      refine yY fun K hK=>tkF ?_
      go_simp
      try go_bits
      refine hK _ _ ?_;clear hK K
     iterate 3
      refine yY fun K hK=>skF ?_
      go_simp;refine hK _ _ ?_;clear hK K
     iterate 1
      refine yY fun K hK=>tkF ?_
      go_simp
      try go_bits
      refine hK _ _ ?_;clear hK K
     refine yY fun K hK=>alF ?_
     refine wp_store_row yU _ _ rfl (w.heap.size+2) (IN.cells (⟨r.op,0,0,ZP,Zs,Zq,[]⟩:IN)).toArray rfl rfl yU _ HT.out.z yP rfl (xD (⟨r.op,0,0,ZP,Zs,Zq,[]⟩:IN)) ?_;have ZZ:SX w r (⟨r.op,0,0,ZP,Zs,Zq,[]⟩:IN) (W3.setRow (w.heap.size+2) (IN.cells (⟨r.op,0,0,ZP,Zs,Zq,[]⟩:IN)).toArray):=Z3.setrow _;refine⟨ZZ,hK _ _ ?_⟩;clear hK K Z3;refine yA (fun y=>y=W3.setRow (w.heap.size+2) (IN.cells (⟨r.op,0,0,ZP,Zs,Zq,[]⟩:IN)).toArray) (fun y hy=>hy▸ZZ) rfl ?_
     iterate 1
      refine yH fun K hK=>tkX ?_
      go_simp
      try go_bits
      refine hK _ ?_;clear hK K
     refine yE (fun y hy=> ?_);obtain rfl:W3.setRow (w.heap.size+2) (IN.cells (⟨r.op,0,0,ZP,Zs,Zq,[]⟩:IN)).toArray=y:=Eq.symm hy
     go_wp2_with fail
     refine bodyPost_ret (x8 rfl _ _ (w.heap.size+2) yU (IN.cells (⟨r.op,0,0,ZP,Zs,Zq,[]⟩:IN)).toArray (0,0) _ rfl (setRow_heap _ _ _ _ _ _ HT.out.z) underlying54 rfl yP) rfl ?_;exact⟨(⟨r.op,0,0,ZP,Zs,Zq,[]⟩:IN),false,rfl,(by rw[ZE.out];rfl),(fun _=>Zm.out.symm),HT.out.done _⟩
    iterate 2
     refine yY fun K hK=>tkF ?_
     go_simp
     try go_bits
     refine hK _ _ ?_;clear hK K
    refine yY fun K hK=>alF ?_
    go_step;refine(WF.out W3).mono ?_;rintro e w9 ⟨rfl,VK⟩;obtain rfl:W3=w9:=Eq.symm VK;go_simp
    first|refine⟨Z3,hK _ _ ?_⟩|refine hK _ _ ?_
    clear hK K
    iterate 2
     refine yY fun K hK=>tkF ?_
     go_simp
     try go_bits
     refine hK _ _ ?_;clear hK K
    cases b2
    ·iterate 3
      refine yY fun K hK=>skF ?_
      go_simp;refine hK _ _ ?_;clear hK K
     iterate 1
      refine yY fun K hK=>tkF ?_
      go_simp
      try go_bits
      refine hK _ _ ?_;clear hK K
     refine yY fun K hK=>alF ?_
     refine wp_store_row yU _ _ rfl (w.heap.size+2) (IN.cells (⟨r.op,0,0,ZP,Zs,Zq,[]⟩:IN)).toArray rfl rfl yU _ HT.out.z yP rfl (xD (⟨r.op,0,0,ZP,Zs,Zq,[]⟩:IN)) ?_;have ZZ:SX w r (⟨r.op,0,0,ZP,Zs,Zq,[]⟩:IN) (W3.setRow (w.heap.size+2) (IN.cells (⟨r.op,0,0,ZP,Zs,Zq,[]⟩:IN)).toArray):=Z3.setrow _;refine⟨ZZ,hK _ _ ?_⟩;clear hK K Z3;refine yA (fun y=>y=W3.setRow (w.heap.size+2) (IN.cells (⟨r.op,0,0,ZP,Zs,Zq,[]⟩:IN)).toArray) (fun y hy=>hy▸ZZ) rfl ?_
     iterate 1
      refine yH fun K hK=>tkX ?_
      go_simp
      try go_bits
      refine hK _ ?_;clear hK K
     refine yE (fun y hy=> ?_);obtain rfl:W3.setRow (w.heap.size+2) (IN.cells (⟨r.op,0,0,ZP,Zs,Zq,[]⟩:IN)).toArray=y:=Eq.symm hy
     go_wp2_with fail
     refine bodyPost_ret (x8 rfl _ _ (w.heap.size+2) yU (IN.cells (⟨r.op,0,0,ZP,Zs,Zq,[]⟩:IN)).toArray (0,0) _ rfl (setRow_heap _ _ _ _ _ _ HT.out.z) underlying54 rfl yP) rfl ?_;exact⟨(⟨r.op,0,0,ZP,Zs,Zq,[]⟩:IN),false,rfl,(by rw[ZE.out];rfl),(fun _=>Zm.out.symm),HT.out.done _⟩
    iterate 2
     refine yY fun K hK=>tkF ?_
     go_simp
     try go_bits
     refine hK _ _ ?_;clear hK K
    refine yY fun K hK=>alF ?_
    go_step;refine(Kh.out W3).mono ?_;rintro e w9 ⟨rfl,ZK⟩;replace HT:=Z' (HT.out.below ZK);replace Z3:=Z3.below ZK;clear ZK;go_simp
    first|refine⟨Z3,hK _ _ ?_⟩|refine hK _ _ ?_
    clear hK K
    iterate 1
     refine yY fun K hK=>tkF ?_
     go_simp
     try go_bits
     refine hK _ _ ?_;clear hK K
    refine yY fun K hK=>alF ?_
    refine wp_store_row yU _ _ rfl (w.heap.size+2) (IN.cells (⟨r.op,0,0,ZP,Zs,Zq,[]⟩:IN)).toArray rfl rfl yU _ HT.out.z yP rfl (xD (⟨r.op,0,0,ZP,Zs,Zq,[]⟩:IN)) ?_;have ZZ:SX w r (⟨r.op,0,0,ZP,Zs,Zq,[]⟩:IN) (w9.setRow (w.heap.size+2) (IN.cells (⟨r.op,0,0,ZP,Zs,Zq,[]⟩:IN)).toArray):=Z3.setrow _;refine⟨ZZ,hK _ _ ?_⟩;clear hK K Z3;refine yA (fun y=>y=w9.setRow (w.heap.size+2) (IN.cells (⟨r.op,0,0,ZP,Zs,Zq,[]⟩:IN)).toArray) (fun y hy=>hy▸ZZ) rfl ?_
    iterate 1
     refine yH fun K hK=>tkX ?_
     go_simp
     try go_bits
     refine hK _ ?_;clear hK K
    refine yE (fun y hy=> ?_);obtain rfl:w9.setRow (w.heap.size+2) (IN.cells (⟨r.op,0,0,ZP,Zs,Zq,[]⟩:IN)).toArray=y:=Eq.symm hy
    go_wp2_with fail
    refine bodyPost_ret (x8 rfl _ _ (w.heap.size+2) yU (IN.cells (⟨r.op,0,0,ZP,Zs,Zq,[]⟩:IN)).toArray (0,0) _ rfl (setRow_heap _ _ _ _ _ _ HT.out.z) underlying54 rfl yP) rfl ?_;exact⟨(⟨r.op,0,0,ZP,Zs,Zq,[]⟩:IN),b3,rfl,(by rw[ZE.out];rfl),(fun _=>Zm.out.symm),HT.out.done _⟩
 have Zm:=Z' (show V={yL r with cl:=(yQ K r.a).1} by rw[HV.out];unfold rC;rw[if_neg Xp,if_neg hm,if_neg hv]);have ZE:=Z' (show C=aclsB K r.a (decide (r.op≠187)) by rw[HC.out];unfold sJ;rw[if_neg Xp,if_neg hm,if_neg hv]);have HM:=Z' (rV W a n cap K r.a YZ.out.k Zg.out);have Xx:=Z' (uj Yn.out r.a);unfold uK at HM;unfold aclsB at ZE;obtain⟨M,hM⟩:=Z8 (yQ K r.a);rw[<-hM]at HM Xx Zm ZE;dsimp only[yL]at Zm;simp only[wK,vB,Bool.or_eq_true,decide_eq_true_eq,not_or]at hm hv;obtain⟨m1,m2,m3,m4⟩:=hm;obtain⟨m5,m6⟩:=hv;have TN:((r.op:Int)==178)=false:=by rw[beq_eq_false_iff_ne];omega
 have TT:((r.op:Int)==179)=false:=by rw[beq_eq_false_iff_ne];omega
 have TH:((r.op:Int)==180)=false:=by rw[beq_eq_false_iff_ne];omega
 have TR:((r.op:Int)==181)=false:=by rw[beq_eq_false_iff_ne];omega
 have TK:((r.op:Int)==182)=false:=by rw[beq_eq_false_iff_ne];omega
 have TY:((r.op:Int)==184)=false:=by rw[beq_eq_false_iff_ne];omega
 have FV:((r.op:Int) !=187)=decide (r.op≠187):=by by_cases h:r.op=187<;>simp[h]<;>omega
 clear hM HV HC Xp m1 m2 m3 m4 m5 m6;generalize decide (r.op≠187)=arr at*;obtain⟨ZP,b0⟩:=M;dsimp only at HM Xx Zm ZE;have n1:=Xx.out;have SM:=Z' (fun W=>tu W ZP (by omega));have WF:=Z' (fun W=>jK W ZP n1);clear n1;generalize classB ZP=b1 at*;generalize x6 ZP=b2 at*
 go_upto_region 18 with fail
 go_wp2_with fail
 refine HM.out.mono ?_;rintro e w1 ⟨rfl,PP⟩;obtain rfl:W=w1:=PP;clear HM
 go_upto_region 19 with fail
 have T8:=Z' (YZ.out.put Xu.out 3 _ (YZ.out.x.set3 ZP));clear YZ i0 i1 i2 i3 i4 i5 i6 f1 f2 f3 f4 f5 f6 r1 r2;dsimp only[yL]at T8;generalize W.setCell ⟨w.heap.size+1,3,none⟩ (.string ⟨ZP.toArray⟩)=W2 at*;have HT:=Z' (T8.out.below (Z6.drew));have Z3:SX w r (⟨r.op,0,0,ZP,[],[],[]⟩:IN) W2.drew:=⟨HT.out.r,HT.out.x⟩;have l0:∀z,SX w r (⟨r.op,0,0,ZP,[],[],[]⟩:IN) z->z.cell? ⟨w.heap.size+1,0,none⟩=some (.int .u8 (r.op:Nat)):=fun z h=>h.2.box.c0
 have l1:∀z,SX w r (⟨r.op,0,0,ZP,[],[],[]⟩:IN) z->z.cell? ⟨w.heap.size+1,1,none⟩=some (.int .i64 0):=fun z h=>h.2.box.c1
 have l2:∀z,SX w r (⟨r.op,0,0,ZP,[],[],[]⟩:IN) z->z.cell? ⟨w.heap.size+1,2,none⟩=some (.int .i64 0):=fun z h=>h.2.box.c2
 have l3:∀z,SX w r (⟨r.op,0,0,ZP,[],[],[]⟩:IN) z->z.cell? ⟨w.heap.size+1,3,none⟩=some (.string ⟨ZP.toArray⟩):=fun z h=>h.2.box.c3
 have l4:∀z,SX w r (⟨r.op,0,0,ZP,[],[],[]⟩:IN) z->z.cell? ⟨w.heap.size+1,4,none⟩=some (.string ⟨#[]⟩):=fun z h=>h.2.box.c4
 have l5:∀z,SX w r (⟨r.op,0,0,ZP,[],[],[]⟩:IN) z->z.cell? ⟨w.heap.size+1,5,none⟩=some (.string ⟨#[]⟩):=fun z h=>h.2.box.c5
 have l6:∀z,SX w r (⟨r.op,0,0,ZP,[],[],[]⟩:IN) z->z.cell? ⟨w.heap.size+1,6,none⟩=some (.string ⟨#[]⟩):=fun z h=>h.2.box.c6
 have la:∀z,SX w r (⟨r.op,0,0,ZP,[],[],[]⟩:IN) z->z.cell? ⟨w.heap.size,1,none⟩=some (.int .u8 (r.op:Nat)):=fun z h=>y8 h.1 1 rfl
 refine ye (SX w r (⟨r.op,0,0,ZP,[],[],[]⟩:IN)) (.of [(0,true),(1,true),(2,true),(3,true),(4,true),(5,false),(6,true),(7,true),(8,true),(9,true),(10,true),(11,true),(12,true),(13,false),(14,true),(15,true),(16,true),(17,false)] (.stir [(18,true)])) (by kernel_rfl) (by kernel_rfl) (fun c a d v w h=>by cases d<;>exact h) ?_
 clear T8;generalize W2.drew=W3 at*
 iterate 3
  refine yY fun K hK=>tkF ?_
  go_simp
  try go_bits
  refine hK _ _ ?_;clear hK K
 cases b0
 ·iterate 13
   refine yY fun K hK=>skF ?_
   go_simp;refine hK _ _ ?_;clear hK K
  iterate 1
   refine yY fun K hK=>tkF ?_
   go_simp
   try go_bits
   refine hK _ _ ?_;clear hK K
  refine yY fun K hK=>alF ?_
  refine wp_store_row yU _ _ rfl (w.heap.size+2) (IN.cells (⟨r.op,0,0,ZP,[],[],[]⟩:IN)).toArray rfl rfl yU _ HT.out.z yP rfl (xD (⟨r.op,0,0,ZP,[],[],[]⟩:IN)) ?_;have ZZ:SX w r (⟨r.op,0,0,ZP,[],[],[]⟩:IN) (W3.setRow (w.heap.size+2) (IN.cells (⟨r.op,0,0,ZP,[],[],[]⟩:IN)).toArray):=Z3.setrow _;refine⟨ZZ,hK _ _ ?_⟩;clear hK K Z3;refine yA (fun y=>y=W3.setRow (w.heap.size+2) (IN.cells (⟨r.op,0,0,ZP,[],[],[]⟩:IN)).toArray) (fun y hy=>hy▸ZZ) rfl ?_
  iterate 1
   refine yH fun K hK=>tkX ?_
   go_simp
   try go_bits
   refine hK _ ?_;clear hK K
  refine yE (fun y hy=> ?_);obtain rfl:W3.setRow (w.heap.size+2) (IN.cells (⟨r.op,0,0,ZP,[],[],[]⟩:IN)).toArray=y:=Eq.symm hy
  go_wp2_with fail
  refine bodyPost_ret (x8 rfl _ _ (w.heap.size+2) yU (IN.cells (⟨r.op,0,0,ZP,[],[],[]⟩:IN)).toArray (0,0) _ rfl (setRow_heap _ _ _ _ _ _ HT.out.z) underlying54 rfl yP) rfl ?_;exact⟨(⟨r.op,0,0,ZP,[],[],[]⟩:IN),false,rfl,(by rw[ZE.out];rfl),(fun _=>Zm.out.symm),HT.out.done _⟩
 iterate 2
  refine yY fun K hK=>tkF ?_
  go_simp
  try go_bits
  refine hK _ _ ?_;clear hK K
 refine yY fun K hK=>alF ?_
 go_step;refine(SM.out W3).mono ?_;rintro e w9 ⟨rfl,VK⟩;obtain rfl:W3=w9:=Eq.symm VK;go_simp
 first|refine⟨Z3,hK _ _ ?_⟩|refine hK _ _ ?_
 clear hK K
 iterate 1
  refine yY fun K hK=>tkF ?_
  go_simp
  try go_bits
  refine hK _ _ ?_;clear hK K
 cases b1
 ·iterate 4
   refine yY fun K hK=>tkF ?_
   go_simp
   try go_bits
   refine hK _ _ ?_;clear hK K
  cases arr
  ·iterate 3
    refine yY fun K hK=>skF ?_
    go_simp;refine hK _ _ ?_;clear hK K
   iterate 3
    refine yY fun K hK=>tkF ?_
    go_simp
    try go_bits
    refine hK _ _ ?_;clear hK K
   refine yY fun K hK=>alF ?_
   refine wp_store_row yU _ _ rfl (w.heap.size+2) (IN.cells (⟨r.op,0,0,ZP,[],[],[]⟩:IN)).toArray rfl rfl yU _ HT.out.z yP rfl (xD (⟨r.op,0,0,ZP,[],[],[]⟩:IN)) ?_;have ZZ:SX w r (⟨r.op,0,0,ZP,[],[],[]⟩:IN) (W3.setRow (w.heap.size+2) (IN.cells (⟨r.op,0,0,ZP,[],[],[]⟩:IN)).toArray):=Z3.setrow _;refine⟨ZZ,hK _ _ ?_⟩;clear hK K Z3;refine yA (fun y=>y=W3.setRow (w.heap.size+2) (IN.cells (⟨r.op,0,0,ZP,[],[],[]⟩:IN)).toArray) (fun y hy=>hy▸ZZ) rfl ?_
   iterate 1
    refine yH fun K hK=>tkX ?_
    go_simp
    try go_bits
    refine hK _ ?_;clear hK K
   refine yE (fun y hy=> ?_);obtain rfl:W3.setRow (w.heap.size+2) (IN.cells (⟨r.op,0,0,ZP,[],[],[]⟩:IN)).toArray=y:=Eq.symm hy
   go_wp2_with fail
   refine bodyPost_ret (x8 rfl _ _ (w.heap.size+2) yU (IN.cells (⟨r.op,0,0,ZP,[],[],[]⟩:IN)).toArray (0,0) _ rfl (setRow_heap _ _ _ _ _ _ HT.out.z) underlying54 rfl yP) rfl ?_;exact⟨(⟨r.op,0,0,ZP,[],[],[]⟩:IN),false,rfl,(by rw[ZE.out];rfl),(fun _=>Zm.out.symm),HT.out.done _⟩
  iterate 2
   refine yY fun K hK=>tkF ?_
   go_simp
   try go_bits
   refine hK _ _ ?_;clear hK K
  refine yY fun K hK=>alF ?_
  go_step;refine(WF.out W3).mono ?_;rintro e w9 ⟨rfl,VK⟩;obtain rfl:W3=w9:=Eq.symm VK;go_simp
  first|refine⟨Z3,hK _ _ ?_⟩|refine hK _ _ ?_
  clear hK K
  iterate 3
   refine yY fun K hK=>tkF ?_
   go_simp
   try go_bits
   refine hK _ _ ?_;clear hK K
  refine yY fun K hK=>alF ?_
  refine wp_store_row yU _ _ rfl (w.heap.size+2) (IN.cells (⟨r.op,0,0,ZP,[],[],[]⟩:IN)).toArray rfl rfl yU _ HT.out.z yP rfl (xD (⟨r.op,0,0,ZP,[],[],[]⟩:IN)) ?_;have ZZ:SX w r (⟨r.op,0,0,ZP,[],[],[]⟩:IN) (W3.setRow (w.heap.size+2) (IN.cells (⟨r.op,0,0,ZP,[],[],[]⟩:IN)).toArray):=Z3.setrow _;refine⟨ZZ,hK _ _ ?_⟩;clear hK K Z3;refine yA (fun y=>y=W3.setRow (w.heap.size+2) (IN.cells (⟨r.op,0,0,ZP,[],[],[]⟩:IN)).toArray) (fun y hy=>hy▸ZZ) rfl ?_
  iterate 1
   refine yH fun K hK=>tkX ?_
   go_simp
   try go_bits
   refine hK _ ?_;clear hK K
  refine yE (fun y hy=> ?_);obtain rfl:W3.setRow (w.heap.size+2) (IN.cells (⟨r.op,0,0,ZP,[],[],[]⟩:IN)).toArray=y:=Eq.symm hy
  go_wp2_with fail
  refine bodyPost_ret (x8 rfl _ _ (w.heap.size+2) yU (IN.cells (⟨r.op,0,0,ZP,[],[],[]⟩:IN)).toArray (0,0) _ rfl (setRow_heap _ _ _ _ _ _ HT.out.z) underlying54 rfl yP) rfl ?_;exact⟨(⟨r.op,0,0,ZP,[],[],[]⟩:IN),b2,rfl,(by rw[ZE.out];rfl),(fun _=>Zm.out.symm),HT.out.done _⟩
 iterate 8
  refine yY fun K hK=>skF ?_
  go_simp;refine hK _ _ ?_;clear hK K
 iterate 2
  refine yY fun K hK=>tkF ?_
  go_simp
  try go_bits
  refine hK _ _ ?_;clear hK K
 refine yY fun K hK=>alF ?_
 refine wp_store_row yU _ _ rfl (w.heap.size+2) (IN.cells (⟨r.op,0,0,ZP,[],[],[]⟩:IN)).toArray rfl rfl yU _ HT.out.z yP rfl (xD (⟨r.op,0,0,ZP,[],[],[]⟩:IN)) ?_;have ZZ:SX w r (⟨r.op,0,0,ZP,[],[],[]⟩:IN) (W3.setRow (w.heap.size+2) (IN.cells (⟨r.op,0,0,ZP,[],[],[]⟩:IN)).toArray):=Z3.setrow _;refine⟨ZZ,hK _ _ ?_⟩;clear hK K Z3;refine yA (fun y=>y=W3.setRow (w.heap.size+2) (IN.cells (⟨r.op,0,0,ZP,[],[],[]⟩:IN)).toArray) (fun y hy=>hy▸ZZ) rfl ?_
 iterate 1
  refine yH fun K hK=>tkX ?_
  go_simp
  try go_bits
  refine hK _ ?_;clear hK K
 refine yE (fun y hy=> ?_);obtain rfl:W3.setRow (w.heap.size+2) (IN.cells (⟨r.op,0,0,ZP,[],[],[]⟩:IN)).toArray=y:=Eq.symm hy
 go_wp2_with fail
 refine bodyPost_ret (x8 rfl _ _ (w.heap.size+2) yU (IN.cells (⟨r.op,0,0,ZP,[],[],[]⟩:IN)).toArray (0,0) _ rfl (setRow_heap _ _ _ _ _ _ HT.out.z) underlying54 rfl yP) rfl ?_;exact⟨(⟨r.op,0,0,ZP,[],[],[]⟩:IN),true,rfl,(by rw[ZE.out];rfl),(fun _=>Zm.out.symm),HT.out.done _⟩
structure RiS(w wx:World)(a:Option Addr)(n:Nat)(K:List KV)(la:Option Addr)(ln:Nat)(L:List RW)(r:RW)(x:IN):Prop where
 r:wx.heap[w.heap.size]? =some (.cells r.cells.toArray 118 (0,0))
 z:yJ (w.heap.size+1) ⟨0,0,0,[],[],[],[]⟩ wx
 x:yJ (w.heap.size+1+1) x wx
 k:Ks wx a n K
 l:Rs wx la ln L
 b:Below w.heap.size w wx
theorem RiS.below{w wx w9:World}{a:Option Addr}{n:Nat}{K:List KV}{la:Option Addr}{ln:Nat}{L:List RW}{r:RW}{x:IN}(h:RiS w wx a n K la ln L r x)(hb:Below wx.heap.size wx w9):RiS w w9 a n K la ln L r x:=
 ⟨yW h.r hb,h.z.below hb,h.x.below hb,h.k.below hb,h.l.below hb,h.b.trans (hb.mono h.b.size)⟩
theorem RiS.put{w wx:World}{a:Option Addr}{n:Nat}{K:List KV}{la:Option Addr}{ln:Nat}{L:List RW}{r:RW}{x x':IN}(h:RiS w wx a n K la ln L r x)(hK:Ks w a n K)(hL:Rs w la ln L)(o:Nat)(v:Value)(hi:yJ (w.heap.size+1+1) x' (wx.setCell ⟨w.heap.size+1+1,o,none⟩ v)):RiS w (wx.setCell ⟨w.heap.size+1+1,o,none⟩ v) a n K la ln L r x':=by
 have hb:Below w.heap.size w (wx.setCell ⟨w.heap.size+1+1,o,none⟩ v):=h.b.setCell (show w.heap.size<=w.heap.size+1+1 by omega) v;exact⟨wQ h.r (by omega) o v,wQ h.z (by omega) o v,hi,hK.below hb,hL.below hb,hb⟩
theorem RiS.done{w wx:World}{a:Option Addr}{n:Nat}{K:List KV}{la:Option Addr}{ln:Nat}{L:List RW}{r:RW}{x:IN}(h:RiS w wx a n K la ln L r x)(cs:Array Value):Below w.heap.size w (wx.setRow (w.heap.size+1) cs):=
 (yZ.setrow (yZ.refl (fun k=>k=w.heap.size+1) wx) (.inl rfl) cs).below h.b Z5 (fun k hk=>by omega)
def QI(s b o:Nat)(r:RW)(v:Int)(w:World):Prop:=w.heap[s]? =some (.cells r.cells.toArray 118 (0,0))/\w.cell? ⟨b,o,none⟩=some (.int .i64 v)
theorem E6p{K:List KV}{r:RW}(h5:yX r.op=5)(Zx:r.op<256):r.op≠20:=by
 intro e;rw[e]at h5;revert h5;decide
theorem E7j{K:List KV}{r:RW}(WR:r.op≠20)(h3:(kAt K r.a.toNat).tag=3):xG K (yL r) r.a.toNat={yL r with ds:=[73],n:=(kAt K r.a.toNat).n}/\xj (xG K (yL r) r.a.toNat)=true:=by
 have e:xG K (yL r) r.a.toNat={yL r with ds:=[73],n:=(kAt K r.a.toNat).n}:=by
  unfold xG;rw[if_pos h3]
 refine⟨e,?_⟩;rw[e];simp[xj,yL,WR]
theorem E6q{K:List KV}{r:RW}(WR:r.op≠20)(h8:(kAt K r.a.toNat).tag=8):xG K (yL r) r.a.toNat={yL r with ds:=[83],tx:=yN K (kAt K r.a.toNat).a}/\xj (xG K (yL r) r.a.toNat)=true:=by
 have e:xG K (yL r) r.a.toNat={yL r with ds:=[83],tx:=yN K (kAt K r.a.toNat).a}:=by
  unfold xG;rw[if_neg (by omega),if_neg (by omega),if_pos h8]
 refine⟨e,?_⟩;rw[e];simp[xj,yL,WR]
theorem eH{K:List KV}{r:RW}(WR:r.op≠20)(h3:(kAt K r.a.toNat).tag≠3)(h8:(kAt K r.a.toNat).tag≠8):xj (xG K (yL r) r.a.toNat)=false:=by
 unfold xG;rw[if_neg h3];by_cases h5:(kAt K r.a.toNat).tag=5
 ·rw[if_pos h5];simp[xj,yL,WR]
 rw[if_neg h5,if_neg h8];simp[xj,yL]
def kj(K:List KV):Prop:=∀i:Int,(kAt K i).tag=8->isT K (kAt K i).a 1=true
theorem D7f(w:World)(a:Option Addr)(n cap:Nat)(K:List KV)(la:Option Addr)(ln lc:Nat)(L:List RW)(r:RW)(hs:Ks w a n K)(hn:n<=65536)(Zb:∀i:Int,(kAt K i).s.length<=65536)(P6:kj K)(hl:Rs w la ln L)(Wp:ln<=65536)(Rh:dU L r)(Zx:r.op<256)(RN:yX r.op≠0)(Yw:yX r.op=5\/yX r.op=6->0<=r.a/\r.a<1048576):
  Calls prog 67 #[.slice a n cap,.slice la ln lc,.agg #[.int .i64 r.pos,.int .u8 (r.op:Nat),.int .i64 r.a,.int .i64 r.b]] w (ff (xT K L r) (ww K r) w):=by
 have Xu:=Z' hs;have Rt:=Z' hl;have Zg:=Z' hn;have Xx:=Z' Wp;have Yn:=Z' Zb;have Wg:=Z' P6;have TC:=Z' Rh;have Zi:=Z' Yw;have R7:=Z' Zx;have Xn:=Z' (fun w=>pH w r.op Zx);have h9:=vg r.op;have UG:Below w.heap.size w (((w.alloc (.cells #[.int .i64 r.pos,.int .u8 (r.op:Nat),.int .i64 r.a,.int .i64 r.b] 118)).alloc (.cells #[.int .u8 0,.int .i64 0,.int .i64 0,.string ⟨#[]⟩,.string ⟨#[]⟩,.string ⟨#[]⟩,.string ⟨#[]⟩] yU)).alloc (.cells #[.int .u8 (r.op:Nat),.int .i64 0,.int .i64 0,.string ⟨#[]⟩,.string ⟨#[]⟩,.string ⟨#[]⟩,.string ⟨#[]⟩] yU)):=(((Below.refl w.heap.size w).alloc Z5 _).alloc (by simp) _).alloc (by simp;omega) _
 have YZ:=Z9 (RiS w (((w.alloc (.cells #[.int .i64 r.pos,.int .u8 (r.op:Nat),.int .i64 r.a,.int .i64 r.b] 118)).alloc (.cells #[.int .u8 0,.int .i64 0,.int .i64 0,.string ⟨#[]⟩,.string ⟨#[]⟩,.string ⟨#[]⟩,.string ⟨#[]⟩] yU)).alloc (.cells #[.int .u8 (r.op:Nat),.int .i64 0,.int .i64 0,.string ⟨#[]⟩,.string ⟨#[]⟩,.string ⟨#[]⟩,.string ⟨#[]⟩] yU)) a n K la ln L r (yL r)) (⟨by
  rw[Below.heap_alloc _ _ _ (by simp;omega),Below.heap_alloc _ _ _ (by simp)];exact heap_alloc_last w _,by
  unfold yJ;rw[Below.heap_alloc _ _ _ (by simp)];have h:=heap_alloc_last (w.alloc (.cells #[.int .i64 r.pos,.int .u8 (r.op:Nat),.int .i64 r.a,.int .i64 r.b] 118)) (.cells #[.int .u8 0,.int .i64 0,.int .i64 0,.string ⟨#[]⟩,.string ⟨#[]⟩,.string ⟨#[]⟩,.string ⟨#[]⟩] yU);have h2:((w.alloc (.cells #[.int .i64 r.pos,.int .u8 (r.op:Nat),.int .i64 r.a,.int .i64 r.b] 118)).alloc (.cells #[.int .u8 0,.int .i64 0,.int .i64 0,.string ⟨#[]⟩,.string ⟨#[]⟩,.string ⟨#[]⟩,.string ⟨#[]⟩] yU)).heap[w.heap.size+1]? =some (.cells #[.int .u8 0,.int .i64 0,.int .i64 0,.string ⟨#[]⟩,.string ⟨#[]⟩,.string ⟨#[]⟩,.string ⟨#[]⟩] yU):=by simpa using h
  exact h2,by
  have h:=heap_alloc_last ((w.alloc (.cells #[.int .i64 r.pos,.int .u8 (r.op:Nat),.int .i64 r.a,.int .i64 r.b] 118)).alloc (.cells #[.int .u8 0,.int .i64 0,.int .i64 0,.string ⟨#[]⟩,.string ⟨#[]⟩,.string ⟨#[]⟩,.string ⟨#[]⟩] yU)) (.cells #[.int .u8 (r.op:Nat),.int .i64 0,.int .i64 0,.string ⟨#[]⟩,.string ⟨#[]⟩,.string ⟨#[]⟩,.string ⟨#[]⟩] yU);have h2:(((w.alloc (.cells #[.int .i64 r.pos,.int .u8 (r.op:Nat),.int .i64 r.a,.int .i64 r.b] 118)).alloc (.cells #[.int .u8 0,.int .i64 0,.int .i64 0,.string ⟨#[]⟩,.string ⟨#[]⟩,.string ⟨#[]⟩,.string ⟨#[]⟩] yU)).alloc (.cells #[.int .u8 (r.op:Nat),.int .i64 0,.int .i64 0,.string ⟨#[]⟩,.string ⟨#[]⟩,.string ⟨#[]⟩,.string ⟨#[]⟩] yU)).heap[w.heap.size+1+1]? =some (.cells #[.int .u8 (r.op:Nat),.int .i64 0,.int .i64 0,.string ⟨#[]⟩,.string ⟨#[]⟩,.string ⟨#[]⟩,.string ⟨#[]⟩] yU):=by simpa using h
  exact h2,hs.below UG,hl.below UG,UG⟩)
 obtain⟨V,hV⟩:=Z8 (xT K L r);obtain⟨C,hC⟩:=Z8 (ww K r);rw[<-hV,<-hC];have HV:=hV;have HC:=hC;unfold xT at HV;unfold ww at HC;obtain⟨f,hf⟩:=Z8 (yX r.op);have WL:=Z' hf;rw[<-hf]at HV HC RN Xn h9;have R3:f=1\/f=2\/f=3\/f=4\/f=9\/f=8\/f=7\/f=5\/f=6:=by omega
 replace HV:=Z' HV;replace HC:=Z' HC;clear hs hl hn Wp Zb P6 Rh Yw UG hV hC hf RN h9 Zx;go_enter func67,ntmps67
 go_upto_region 2 with fail
 generalize((w.alloc (.cells #[.int .i64 r.pos,.int .u8 (r.op:Nat),.int .i64 r.a,.int .i64 r.b] 118)).alloc (.cells #[.int .u8 0,.int .i64 0,.int .i64 0,.string ⟨#[]⟩,.string ⟨#[]⟩,.string ⟨#[]⟩,.string ⟨#[]⟩] yU)).alloc (.cells #[.int .u8 (r.op:Nat),.int .i64 0,.int .i64 0,.string ⟨#[]⟩,.string ⟨#[]⟩,.string ⟨#[]⟩,.string ⟨#[]⟩] yU)=W at*;have r1:=y8 YZ.out.r 1 rfl;dsimp only[RW.cells]at r1
 go_wp2_with fail
 refine(Xn.out W).mono ?_;rintro e w1 ⟨rfl,PP⟩;obtain rfl:W=w1:=Eq.symm (Eq.symm PP);obtain⟨i0,i1,i2,i3,i4,i5,i6,f1,f2,f3,f4,f5,f6⟩:=YZ.out.x.box;have r2:=y8 YZ.out.r 2 rfl;have r3:=y8 YZ.out.r 3 rfl;have r0:=y8 YZ.out.r 0 rfl;dsimp only[RW.cells,yL]at r0 r2 r3 i0 i1 i2 i3 i4 i5 i6;clear Xn
 rcases R3 with rfl|rfl|rfl|rfl|rfl|rfl|rfl|rfl|rfl
 ·have Zm:=Z9 (V={yL r with n:=r.a}) HV.out;have ZE:=Z9 (C=true) HC.out;clear HV HC TC Zi Wg;have ZJ:=Z' (YZ.out.put Xu.out Rt.out 1 _ (YZ.out.x.set1 r.a))
  go_upto_region 9 with fail
  refine wp_region_lit ?_;refine xN rfl _ _ rfl _ rfl _ _ _ _ ZJ.out.x underlying54 rfl yP ?_;refine wpList_store_row rfl _ _ _ rfl _ _ rfl rfl _ _ ZJ.out.z yP rfl (xD _) ?_
  go_wp2_with fail
  refine bodyPost_ret (x8 rfl _ _ (w.heap.size+1) yU (IN.cells _).toArray (0,0) _ rfl (setRow_heap _ _ _ _ _ _ ZJ.out.z) underlying54 rfl yP) rfl ?_;exact⟨_,_,rfl,ZE.out.symm,(fun _=>Zm.out.symm),ZJ.out.done _⟩
 ·have Zm:=Z9 (V={yL r with n:=r.a}) HV.out;have ZE:=Z9 (C=true) HC.out;clear HV HC TC Zi Wg;have ZJ:=Z' (YZ.out.put Xu.out Rt.out 1 _ (YZ.out.x.set1 r.a))
  go_upto_region 9 with fail
  refine wp_region_lit ?_;refine xN rfl _ _ rfl _ rfl _ _ _ _ ZJ.out.x underlying54 rfl yP ?_;refine wpList_store_row rfl _ _ _ rfl _ _ rfl rfl _ _ ZJ.out.z yP rfl (xD _) ?_
  go_wp2_with fail
  refine bodyPost_ret (x8 rfl _ _ (w.heap.size+1) yU (IN.cells _).toArray (0,0) _ rfl (setRow_heap _ _ _ _ _ _ ZJ.out.z) underlying54 rfl yP) rfl ?_;exact⟨_,_,rfl,ZE.out.symm,(fun _=>Zm.out.symm),ZJ.out.done _⟩
 ·have Zm:=Z9 (V={yL r with n:=r.a}) HV.out;have ZE:=Z9 (C=true) HC.out;clear HV HC TC Zi Wg;have ZJ:=Z' (YZ.out.put Xu.out Rt.out 1 _ (YZ.out.x.set1 r.a))
  go_upto_region 9 with fail
  refine wp_region_lit ?_;refine xN rfl _ _ rfl _ rfl _ _ _ _ ZJ.out.x underlying54 rfl yP ?_;refine wpList_store_row rfl _ _ _ rfl _ _ rfl rfl _ _ ZJ.out.z yP rfl (xD _) ?_
  go_wp2_with fail
  refine bodyPost_ret (x8 rfl _ _ (w.heap.size+1) yU (IN.cells _).toArray (0,0) _ rfl (setRow_heap _ _ _ _ _ _ ZJ.out.z) underlying54 rfl yP) rfl ?_;exact⟨_,_,rfl,ZE.out.symm,(fun _=>Zm.out.symm),ZJ.out.done _⟩
 ·have Zm:=Z9 (V={yL r with n:=r.a}) HV.out;have ZE:=Z9 (C=true) HC.out;clear HV HC TC Zi Wg;have ZJ:=Z' (YZ.out.put Xu.out Rt.out 1 _ (YZ.out.x.set1 r.a))
  go_upto_region 9 with fail
  refine wp_region_lit ?_;refine xN rfl _ _ rfl _ rfl _ _ _ _ ZJ.out.x underlying54 rfl yP ?_;refine wpList_store_row rfl _ _ _ rfl _ _ rfl rfl _ _ ZJ.out.z yP rfl (xD _) ?_
  go_wp2_with fail
  refine bodyPost_ret (x8 rfl _ _ (w.heap.size+1) yU (IN.cells _).toArray (0,0) _ rfl (setRow_heap _ _ _ _ _ _ ZJ.out.z) underlying54 rfl yP) rfl ?_;exact⟨_,_,rfl,ZE.out.symm,(fun _=>Zm.out.symm),ZJ.out.done _⟩
 ·have Zm:=Z9 (V={yL r with n:=r.a}) HV.out;have ZE:=Z9 (C=true) HC.out;clear HV HC TC Zi Wg;have ZJ:=Z' (YZ.out.put Xu.out Rt.out 1 _ (YZ.out.x.set1 r.a))
  go_upto_region 9 with fail
  refine wp_region_lit ?_;refine xN rfl _ _ rfl _ rfl _ _ _ _ ZJ.out.x underlying54 rfl yP ?_;refine wpList_store_row rfl _ _ _ rfl _ _ rfl rfl _ _ ZJ.out.z yP rfl (xD _) ?_
  go_wp2_with fail
  refine bodyPost_ret (x8 rfl _ _ (w.heap.size+1) yU (IN.cells _).toArray (0,0) _ rfl (setRow_heap _ _ _ _ _ _ ZJ.out.z) underlying54 rfl yP) rfl ?_;exact⟨_,_,rfl,ZE.out.symm,(fun _=>Zm.out.symm),ZJ.out.done _⟩
 ·have Zm:=Z9 (V={yL r with n:=r.a,m:=r.b}) HV.out;have ZE:=Z9 (C=true) HC.out;clear HV HC TC Zi Wg i0 i3 r0 r1
  go_upto_region 11 with fail
  have QA:∀w':World,w'.heap[w.heap.size]? =some (.cells r.cells.toArray 118 (0,0))->w'.cell? ⟨w.heap.size,2,none⟩=some (.int .i64 r.a):=fun w' h=>y8 h 2 rfl
  have Qu:∀w':World,w'.heap[w.heap.size]? =some (.cells r.cells.toArray 118 (0,0))->w'.cell? ⟨w.heap.size,3,none⟩=some (.int .i64 r.b):=fun w' h=>y8 h 3 rfl
  have QH:=Z' (YZ.out.below (Z6.drew));have Z3:W.drew.heap[w.heap.size]? =some (.cells r.cells.toArray 118 (0,0)):=QH.out.r;have FY:W.drew.frozen? ⟨w.heap.size+1+1,1,none⟩=false:=QH.out.x.box.f1
  refine ye (fun wx=>wx.heap[w.heap.size]? =some (.cells r.cells.toArray 118 (0,0))) (.of [(0,true),(1,true),(2,true),(3,true),(4,true),(5,false),(6,true),(7,false)] (.stir [])) (by kernel_rfl) (by kernel_rfl) (fun c a d v w h=>by cases d<;>exact h) ?_
  iterate 5
   refine yY fun K hK=>tkF ?_
   go_simp
   try go_bits
   refine hK _ _ ?_;clear hK K
  have Zj:=Z' (QH.out.put Xu.out Rt.out 1 _ (QH.out.x.set1 r.a));refine yY fun K hK=>alF ?_
  go_step;have Sg:(W.drew.setCell ⟨w.heap.size+1+1,1,none⟩ (.int .i64 r.a)).heap[w.heap.size]? =some (.cells r.cells.toArray 118 (0,0)):=Zj.out.r;refine⟨Sg,hK _ _ ?_⟩;clear hK K Z3 FY QH;have Z3:=Sg;clear Sg;have Fa:(W.drew.setCell ⟨w.heap.size+1+1,1,none⟩ (.int .i64 r.a)).frozen? ⟨w.heap.size+1+1,2,none⟩=false:=Zj.out.x.box.f2
  iterate 1
   refine yY fun K hK=>tkF ?_
   go_simp
   try go_bits
   refine hK _ _ ?_;clear hK K
  have ZJ:=Z' (Zj.out.put Xu.out Rt.out 2 _ (Zj.out.x.set2 r.b));refine yY fun K hK=>alF ?_
  go_step;have Tv:((W.drew.setCell ⟨w.heap.size+1+1,1,none⟩ (.int .i64 r.a)).setCell ⟨w.heap.size+1+1,2,none⟩ (.int .i64 r.b)).heap[w.heap.size]? =some (.cells r.cells.toArray 118 (0,0)):=ZJ.out.r;refine⟨Tv,hK _ _ ?_⟩;clear hK K Z3 Fa Zj;refine yA (fun y=>y=(W.drew.setCell ⟨w.heap.size+1+1,1,none⟩ (.int .i64 r.a)).setCell ⟨w.heap.size+1+1,2,none⟩ (.int .i64 r.b)) (fun y hy=>hy▸Tv) rfl ?_;refine yE (fun y hy=> ?_);subst hy;clear Tv QA Qu
  go_upto_region 12 with fail
  refine wp_region_lit ?_;refine xN rfl _ _ rfl _ rfl _ _ _ _ ZJ.out.x underlying54 rfl yP ?_;refine wpList_store_row rfl _ _ _ rfl _ _ rfl rfl _ _ ZJ.out.z yP rfl (xD _) ?_
  go_wp2_with fail
  refine bodyPost_ret (x8 rfl _ _ (w.heap.size+1) yU (IN.cells _).toArray (0,0) _ rfl (setRow_heap _ _ _ _ _ _ ZJ.out.z) underlying54 rfl yP) rfl ?_;exact⟨_,_,rfl,ZE.out.symm,(fun _=>Zm.out.symm),ZJ.out.done _⟩
 ·have Zm:=Z9 (V={yL r with n:=(((wF L r.a).getD 0:Nat):Int)}) HV.out;have ZE:=Z9 (C=true) HC.out;have HI:=Z' (qF W la ln lc L r.a YZ.out.l Xx.out);have Mb:=Z' (TC.out (by rw[<-WL.out]));rw[Mb.out]at HI;clear HV HC TC Zi Wg Mb;generalize(((wF L r.a).getD 0:Nat):Int)=ix at*
  go_upto_region 14 with fail
  go_wp2_with fail
  refine HI.out.mono ?_;rintro e w9 ⟨rfl,hb⟩;have ZJ:=Z' (YZ.out.below hb);clear hb HI YZ i0 i1 i2 i3 i4 i5 i6 f1 f2 f3 f4 f5 f6 r0 r1 r2 r3;obtain⟨i0,i1,i2,i3,i4,i5,i6,f1,f2,f3,f4,f5,f6⟩:=ZJ.out.x.box;dsimp only[yL]at i0 i1 i2 i3 i4 i5 i6;have Yg:=Z' (ZJ.out.put Xu.out Rt.out 1 _ (ZJ.out.x.set1 ix))
  go_upto_region 15 with fail
  refine wp_region_lit ?_;refine xN rfl _ _ rfl _ rfl _ _ _ _ Yg.out.x underlying54 rfl yP ?_;refine wpList_store_row rfl _ _ _ rfl _ _ rfl rfl _ _ Yg.out.z yP rfl (xD _) ?_
  go_wp2_with fail
  refine bodyPost_ret (x8 rfl _ _ (w.heap.size+1) yU (IN.cells _).toArray (0,0) _ rfl (setRow_heap _ _ _ _ _ _ Yg.out.z) underlying54 rfl yP) rfl ?_;exact⟨_,_,rfl,ZE.out.symm,(fun _=>Zm.out.symm),Yg.out.done _⟩
 ·have WR:r.op≠20:=E6p (K:=K) WL.out.symm R7.out;have R9:=Z9 (V=xG K (yL r) r.a.toNat) HV.out;have TD:=Z9 (C=xj (xG K (yL r) r.a.toNat)) HC.out;obtain⟨En,Gg⟩:=Zi.out (.inl WL.out.symm);have H':=Z' WR;clear HV HC TC Zi WR;by_cases ZX:r.a<n
  ·have Hg:decide (r.a<(n:Int))=true:=by simp;omega
   obtain⟨b,off,rfl,Zu,k0,k1,k2,k3,k4⟩:=YZ.out.k.at r.a.toNat (by omega);obtain⟨c,hc⟩:=Z8 (kAt K r.a.toNat);rw[<-hc]at k0 k1 k2 k3 k4;have MW:=Z' hc;by_cases h3:c.tag=3
   ·obtain⟨v1,v2⟩:=E7j H'.out (show(kAt K r.a.toNat).tag=3 by rw[<-hc];exact h3);have e3:(c.tag==3)=true:=by rw[h3];rfl
    have Zm:=Z' (R9.out.trans v1);have ZE:=Z' (TD.out.trans v2);rw[<-hc]at Zm;clear hc h3 v1 v2 R9 TD
    go_upto_region 18 with fail
    have PA:=Z' (YZ.out.below (Z6.drew));have Z3:QI w.heap.size b (off+r.a.toNat*5+3) r c.n W.drew:=⟨PA.out.r,k3⟩;have l0:∀z,QI w.heap.size b (off+r.a.toNat*5+3) r c.n z->z.cell? ⟨w.heap.size,2,none⟩=some (.int .i64 r.a):=fun z h=>y8 h.1 2 rfl
    have l1:∀z,QI w.heap.size b (off+r.a.toNat*5+3) r c.n z->z.cell? ⟨b,off+r.a.toNat*5+3,none⟩=some (.int .i64 c.n):=fun z h=>h.2
    refine ye (QI w.heap.size b (off+r.a.toNat*5+3) r c.n) (.of [(0,true),(1,true),(2,true),(3,true),(4,true),(5,true),(6,true),(7,false),(8,true),(9,false)] (.stir [])) (by kernel_rfl) (by kernel_rfl) (fun c a d v w h=>by cases d<;>exact h) ?_
    generalize W.drew=W1 at*
    iterate 7
     refine yY fun K hK=>tkF ?_
     go_simp
     try go_bits
     refine hK _ _ ?_;clear hK K
    obtain⟨i0,i1,i2,i3,i4,i5,i6,f1,f2,f3,f4,f5,f6⟩:=PA.out.x.box;refine yY fun K hK=>alF ?_
    go_step;have ZJ:=Z' (PA.out.put Xu.out Rt.out 5 _ (PA.out.x.set5 [73]))
    have ZZ:QI w.heap.size b (off+r.a.toNat*5+3) r c.n (W1.setCell ⟨w.heap.size+1+1,5,none⟩ (.string ⟨#[73]⟩)):=⟨ZJ.out.r,by
     obtain⟨b2,Zf,e,_,_,_,_,q3,_⟩:=ZJ.out.k.at r.a.toNat (by omega)
     cases e
     rw[<-MW.out]at q3;exact q3⟩
    refine⟨ZZ,hK _ _ ?_⟩;clear hK K Z3 i0 i1 i2 i3 i4 i5 i6 f1 f2 f3 f4 f5 f6;have Z3:=ZZ;clear ZZ
    iterate 1
     refine yY fun K hK=>tkF ?_
     go_simp
     try go_bits
     refine hK _ _ ?_;clear hK K
    obtain⟨i0,i1,i2,i3,i4,i5,i6,f1,f2,f3,f4,f5,f6⟩:=ZJ.out.x.box;dsimp only[yL]at i0 i1 i2 i3 i4 i5 i6;refine yY fun K hK=>alF ?_
    go_step;have Yg:=Z' (ZJ.out.put Xu.out Rt.out 1 _ (ZJ.out.x.set1 c.n))
    have ZZ:QI w.heap.size b (off+r.a.toNat*5+3) r c.n ((W1.setCell ⟨w.heap.size+1+1,5,none⟩ (.string ⟨#[73]⟩)).setCell ⟨w.heap.size+1+1,1,none⟩ (.int .i64 c.n)):=⟨Yg.out.r,by
     obtain⟨b2,Zf,e,_,_,_,_,q3,_⟩:=Yg.out.k.at r.a.toNat (by omega)
     cases e
     rw[<-MW.out]at q3;exact q3⟩
    refine⟨ZZ,hK _ _ ?_⟩;clear hK K Z3 i0 i1 i2 i3 i4 i5 i6 f1 f2 f3 f4 f5 f6;generalize(W1.setCell ⟨w.heap.size+1+1,5,none⟩ (.string ⟨#[73]⟩)).setCell ⟨w.heap.size+1+1,1,none⟩ (.int .i64 c.n)=W2 at*;refine yA (fun y=>y=W2) (fun y hy=>hy▸ZZ) rfl ?_;refine yE (fun y hy=> ?_);obtain rfl:W2=y:=Eq.symm hy;clear ZZ l0 l1
    go_upto_region 19 with fail
    refine wp_region_lit ?_;refine xN rfl _ _ rfl _ rfl _ _ _ _ Yg.out.x underlying54 rfl yP ?_;refine wpList_store_row rfl _ _ _ rfl _ _ rfl rfl _ _ Yg.out.z yP rfl (xD _) ?_
    go_wp2_with fail
    refine bodyPost_ret (x8 rfl _ _ (w.heap.size+1) yU (IN.cells _).toArray (0,0) _ rfl (setRow_heap _ _ _ _ _ _ Yg.out.z) underlying54 rfl yP) rfl ?_;exact⟨_,_,rfl,ZE.out.symm,(fun _=>Zm.out.symm),Yg.out.done _⟩
   have e3:(c.tag==3)=false:=by rw[beq_eq_false_iff_ne];exact h3
   by_cases h8:c.tag=8
   ·obtain⟨v1,v2⟩:=E6q H'.out (show(kAt K r.a.toNat).tag=8 by rw[<-hc];exact h8);have e8:(c.tag==8)=true:=by rw[h8];rfl
    have Zm:=Z' (R9.out.trans v1);have ZE:=Z' (TD.out.trans v2)
    have Gr:isT K c.a 1=true:=by
     rw[hc];exact Wg.out r.a.toNat (by rw[<-hc];exact h8)
    rw[<-hc]at Zm;have Je:=Z' (qK W (some ⟨b,off,none⟩) n cap K c.a YZ.out.k Zg.out);unfold uJ at Je;rw[Gr]at Je;clear hc h3 h8 v1 v2 R9 TD Gr;generalize yN K c.a=tx at*
    go_upto_region 21 with fail
    go_wp2_with fail
    refine Je.out.mono ?_;rintro e w9 ⟨rfl,VK⟩;obtain rfl:W=w9:=VK;clear Je
    go_upto_region 22 with fail
    have ZJ:=Z' (YZ.out.put Xu.out Rt.out 5 _ (YZ.out.x.set5 [83]));have Yg:=Z' (ZJ.out.put Xu.out Rt.out 6 _ (ZJ.out.x.set6 tx))
    go_upto_region 23 with fail
    refine wp_region_lit ?_;refine xN rfl _ _ rfl _ rfl _ _ _ _ Yg.out.x underlying54 rfl yP ?_;refine wpList_step fun K hK=> ?_
    rw[if_pos (by rfl)];go_step;refine hK _ _ ?_;clear hK K;refine wpList_store_row rfl _ _ _ rfl _ _ rfl rfl _ _ Yg.out.z yP rfl (xD _) ?_
    go_wp2_with fail
    refine bodyPost_ret (x8 rfl _ _ (w.heap.size+1) yU (IN.cells _).toArray (0,0) _ rfl (setRow_heap _ _ _ _ _ _ Yg.out.z) underlying54 rfl yP) rfl ?_;exact⟨_,_,rfl,ZE.out.symm,(fun _=>Zm.out.symm),Yg.out.done _⟩
   have v2:=eH H'.out (show(kAt K r.a.toNat).tag≠3 by rw[<-hc];exact h3) (show(kAt K r.a.toNat).tag≠8 by rw[<-hc];exact h8);have e8:(c.tag==8)=false:=by rw[beq_eq_false_iff_ne];exact h8
   have ZE:=Z' (TD.out.trans v2);clear hc h3 h8 v2 R9 TD
   go_upto_region 24 with fail
   refine wp_region_lit ?_;refine xN rfl _ _ rfl _ rfl _ _ _ _ YZ.out.x underlying54 rfl yP ?_;refine wpList_store_row rfl _ _ _ rfl _ _ rfl rfl _ _ YZ.out.z yP rfl (xD _) ?_
   go_wp2_with fail
   refine bodyPost_ret (x8 rfl _ _ (w.heap.size+1) yU (IN.cells _).toArray (0,0) _ rfl (setRow_heap _ _ _ _ _ _ YZ.out.z) underlying54 rfl yP) rfl ?_;exact⟨_,_,rfl,ZE.out.symm,(fun h=>absurd h (by decide)),YZ.out.done _⟩
  have Hg:decide (r.a<(n:Int))=false:=by simp;omega
  have hk:(kAt K r.a.toNat).tag=0:=by
   unfold kAt;have hl:=Xu.out.1;rw[List.getD_eq_getElem?_getD,List.getElem?_eq_none (by omega)];rfl
  have v2:=eH H'.out (by rw[hk];decide) (by rw[hk];decide);have ZE:=Z' (TD.out.trans v2);clear hk v2 R9 TD ZX
  go_upto_region 24 with fail
  refine wp_region_lit ?_;refine xN rfl _ _ rfl _ rfl _ _ _ _ YZ.out.x underlying54 rfl yP ?_;refine wpList_store_row rfl _ _ _ rfl _ _ rfl rfl _ _ YZ.out.z yP rfl (xD _) ?_
  go_wp2_with fail
  refine bodyPost_ret (x8 rfl _ _ (w.heap.size+1) yU (IN.cells _).toArray (0,0) _ rfl (setRow_heap _ _ _ _ _ _ YZ.out.z) underlying54 rfl yP) rfl ?_;exact⟨_,_,rfl,ZE.out.symm,(fun h=>absurd h (by decide)),YZ.out.done _⟩
 have Zm:=Z9 (V=rC K r) HV.out;have ZE:=Z9 (C=sJ K r) HC.out;obtain⟨En,Gg⟩:=Zi.out (.inr WL.out.symm);have Ty:=Z' (bk W a n cap K r YZ.out.k Zg.out Yn.out R7.out ⟨En,Gg⟩);clear HV HC TC Zi Wg;rw[<-Zm.out,<-ZE.out]at Ty
 go_upto_region 25 with fail
 go_wp2_with fail
 refine Ty.out.mono ?_;rintro e w9 ⟨x9,ok,rfl,XC,hx,hb⟩;have ZJ:=Z' (YZ.out.below hb);have Q5:=Z' XC;have HX:=Z' hx;clear hb YZ i0 i1 i2 i3 i4 i5 i6 f1 f2 f3 f4 f5 f6 r0 r1 r2 r3 XC hx Ty;obtain⟨o9,n9,m9,Hs,He,Hh,Hw⟩:=x9;obtain⟨i0,i1,i2,i3,i4,i5,i6,f1,f2,f3,f4,f5,f6⟩:=ZJ.out.z.box;have f0:=xQ ZJ.out.z 0;dsimp only[IN.cells]
 go_wp2_with fail
 have b6:=(((((((show yJ (w.heap.size+1) ⟨o9,0,0,[],[],[],[]⟩ _ from wZ ZJ.out.z 0 (.int .u8 (o9:Nat))).set1 n9).set2 m9).set3 Hs).set4 He).set5 Hh).set6 Hw);have ZK:=(((((((ZJ.out.b.setCell (p:=⟨w.heap.size+1,0,none⟩) (show w.heap.size<=w.heap.size+1 by omega) (.int .u8 (o9:Nat))).setCell (p:=⟨w.heap.size+1,1,none⟩) (show w.heap.size<=w.heap.size+1 by omega) (.int .i64 n9)).setCell (p:=⟨w.heap.size+1,2,none⟩) (show w.heap.size<=w.heap.size+1 by omega) (.int .i64 m9)).setCell (p:=⟨w.heap.size+1,3,none⟩) (show w.heap.size<=w.heap.size+1 by omega) (.string ⟨Hs.toArray⟩)).setCell (p:=⟨w.heap.size+1,4,none⟩) (show w.heap.size<=w.heap.size+1 by omega) (.string ⟨He.toArray⟩)).setCell (p:=⟨w.heap.size+1,5,none⟩) (show w.heap.size<=w.heap.size+1 by omega) (.string ⟨Hh.toArray⟩)).setCell (p:=⟨w.heap.size+1,6,none⟩) (show w.heap.size<=w.heap.size+1 by omega) (.string ⟨Hw.toArray⟩));refine bodyPost_ret (x8 rfl _ _ (w.heap.size+1) yU (IN.cells ⟨o9,n9,m9,Hs,He,Hh,Hw⟩).toArray (0,0) _ rfl b6 underlying54 rfl yP) rfl ?_;exact⟨⟨o9,n9,m9,Hs,He,Hh,Hw⟩,ok,rfl,Q5.out,HX.out,ZK⟩
end
end Go.Proofs.YtclpkipaehpkdaaGreatDoor
