/- asm -/
import Derived.Test.YtclpkipaehpkdaaGreatDoorQ22AsmLowers
import Derived.Test.YtclpkipaehpkdaaGreatDoorQ25AsmLowers
set_option linter.unusedVariables false
set_option linter.unusedSimpArgs false
set_option maxRecDepth 100000
set_option maxHeartbeats 64000000
namespace Go.Proofs.YtclpkipaehpkdaaGreatDoor
section
open Go.ChangeShapes Go.WideShapes Go.ChangeAt Go.RowKit
theorem D5u{L:List KV}(hp:A5e L=true):D9b L:=by
 intro i h8
 have hl:i.toNat<L.length:=by
  refine Nat.lt_of_not_le fun hh=> ?_
  unfold kAt at h8;rw[List.getD_eq_getElem?_getD,List.getElem?_eq_none hh]at h8;exact absurd h8 (by decide)
 have e:kAt L i=kAt L (i.toNat:Int):=by
  unfold kAt;rw[Int.toNat_natCast]
 rw[e]at h8⊢;unfold A5e at hp;simp only[Bool.and_eq_true,List.all_eq_true]at hp;have h2:=hp.2 i.toNat (List.mem_range.2 hl);unfold A1f at h2;simp only[Bool.and_eq_true]at h2;replace h2:=h2.2
 unfold A1g at h2;simp only[h8]at h2;simpa using h2
structure RlC(w W:World)(go:Nat)(f:KF):Prop where
 f:W.heap[w.heap.size]? =some (.cells f.cells.toArray 26 (0,0))
 z:W.heap[w.heap.size+1]? =some (.cells u0.cells.toArray A2k (0,0))
 b:Below w.heap.size w W
 gs:go<W.heap.size
 g1:w.heap.size+1<go
abbrev GL(go:Nat):Nat->Prop:=fun k=>k=go
theorem RlC.fw{w W wr:World}{go:Nat}{f:KF}(h:RlC w W go f)(k:A0j (GL go) W wr):wr.heap[w.heap.size]? =some (.cells f.cells.toArray 26 (0,0)):=k.row h.f (by have:=h.g1;show ¬(_=_);omega)
theorem RlC.zw{w W wr:World}{go:Nat}{f:KF}(h:RlC w W go f)(k:A0j (GL go) W wr):wr.heap[w.heap.size+1]? =some (.cells u0.cells.toArray A2k (0,0)):=k.row h.z (by have:=h.g1;show ¬(_=_);omega)
theorem RlC.bw{w W wr:World}{go:Nat}{f:KF}(h:RlC w W go f)(k:A0j (GL go) W wr):Below w.heap.size w wr:=k.below h.b nlz (fun x hx=>by have:=h.g1;have hx':x=go:=hx;omega)
structure RlJ(W wr:World)(go:Nat)(x:UU):Prop where
 k:A0j (GL go) W wr
 o:wr.heap[go]? =some (.cells x.cells.toArray A2k (0,0))
 w:x.Own wr W.heap.size
theorem RlJ.below{W wr w9:World}{go:Nat}{x:UU}(h:RlJ W wr go x)(hb:Below wr.heap.size wr w9):RlJ W w9 go x:=
 ⟨h.k.trans (A0j.of hb),A0c h.o hb,h.w.keepP (A0j.of (p:=fun _=>False) hb) (fun _ hx=>hx.elim)⟩
theorem RlJ.app{W wr w9:World}{go:Nat}{x x':UU}{e:TypeId}(h:RlJ W wr go x)(hB:A0j (fun k=>W.heap.size<=k) wr w9)(ht:A3a e wr w9)(hw:x'.Own w9 W.heap.size)(hgo:go<W.heap.size)(hme:A2k≠e:=by decide):
  A0j (GL go) W w9/\w9.heap[go]? =some (.cells x.cells.toArray A2k (0,0))/\∀(o:Nat) (v:Value),x'.cells.toArray=x.cells.toArray.setIfInBounds o v->RlJ W (w9.setCell ⟨go,o,none⟩ v) go x':=by
 have hk9:=h.k.new hB;have ho9:=ht.2 _ _ _ _ h.o hme;refine⟨hk9,ho9,fun o v hc=> ?_⟩;have hs:A0j (GL go) w9 (w9.setCell ⟨go,o,none⟩ v):=A0j.set (A0j.refl (GL go) w9) (.inl rfl) o v
 refine⟨hk9.trans hs,?_,hw.keepP hs (fun y hy=> .inl (by have hy':y=go:=hy;omega))⟩;have:=A1e ho9 o v;rw[hc];exact this
def D4t(f:KF)(w:World)(e:Ending)(w':World):Prop:=
 ∃(u:UU) (ok:Bool),e= .returned (.tuple #[.agg u.cells.toArray,.bool ok])/\ok=B1n f/\(ok=true->u.p=B6u f/\u.Own w' w.heap.size)/\(ok=false->u=u0)/\Below w.heap.size w w'
theorem D4u{f:KF}{NM SU:List UInt8}(hc:A2q f=true)(h1:(A0s f.pool f.th).1=NM)(h2:SU=if f.su=0 then []else(A0s f.pool f.su).1):
  B1n f=(classB NM&&((decide (f.su=0)||classB SU)&&(f.fields.all (A6u f.pool)&&f.methods.all (A9r f.pool)))):=by
 unfold B1n;rw[hc,B2q,B2q,h1];by_cases h0:f.su=0
 ·simp[h0]
 rw[h2,if_neg h0];simp
def QL(s gd b o1 o2:Nat)(f:KF)(d:KD)(nm ds:List UInt8)(w:World):Prop:=(w.heap[s]? =some (.cells f.cells.toArray 26 (0,0))/\w.heap[gd]? =some (.cells d.cells.toArray 75 (0,0)))/\w.cell? ⟨b,o1,none⟩=some (.string ⟨nm.toArray⟩)/\w.cell? ⟨b,o2,none⟩=some (.string ⟨ds.toArray⟩)
theorem QL.below{s gd b o1 o2:Nat}{f:KF}{d:KD}{nm ds:List UInt8}{w w':World}(h:QL s gd b o1 o2 f d nm ds w)(hb:Below w.heap.size w w'):QL s gd b o1 o2 f d nm ds w':=⟨⟨A0c h.1.1 hb,A0c h.1.2 hb⟩,A0e hb h.2.1,A0e hb h.2.2⟩
theorem QL.row{s gd b o1 o2:Nat}{f:KF}{d:KD}{nm ds:List UInt8}{w w':World}(h:QL s gd b o1 o2 f d nm ds w){B:Nat}(hb:Below B w w')(hB:s<B/\gd<B/\b<B):QL s gd b o1 o2 f d nm ds w':=
 ⟨⟨by rw[hb.block s hB.1];exact h.1.1,by rw[hb.block gd hB.2.1];exact h.1.2⟩,by rw[hb.cell (show(⟨b,o1,none⟩:Addr).block<B from hB.2.2)];exact h.2.1,by rw[hb.cell (show(⟨b,o2,none⟩:Addr).block<B from hB.2.2)];exact h.2.2⟩
theorem B3u{f:KF}(h:A2q f=true):A5e f.pool=true/\∀d∈f.fields,A3b f.pool d.fl d.nm d.ds=true:=by
 unfold A2q at h;simp only[Bool.and_eq_true,List.all_eq_true]at h;exact⟨h.1.1.1.1.1,h.1.2⟩
theorem D4a(w:World)(f:KF)(h:f.Rd w)(hfit:f.Fit)(hbig:f.Big):
  Calls Tryz.prog 11 #[.agg #[.slice f.pa f.pn f.pc,.int .i64 f.th,.int .i64 f.su,.slice f.fa f.fn f.fc,.slice f.ma f.mn f.mc]] w (D4t f w):=by
 have htx:=B2f h hfit;have hpn:=hfit.pn;have HR:=hzz h;have HTX:=hzz htx;have HNN:=hzz hpn
 have hb2:Below w.heap.size w ((w.alloc (.cells #[.slice f.pa f.pn f.pc,.int .i64 f.th,.int .i64 f.su,.slice f.fa f.fn f.fc,.slice f.ma f.mn f.mc] 26)).alloc (.cells #[.string ⟨#[]⟩,.string ⟨#[]⟩,.slice none 0 0,.slice none 0 0] A2k)):=((Below.refl w.heap.size w).alloc nlz _).alloc (by simp) _
 have HB2:=hzz hb2
 have HX1:=hzz (show((w.alloc (.cells #[.slice f.pa f.pn f.pc,.int .i64 f.th,.int .i64 f.su,.slice f.fa f.fn f.fc,.slice f.ma f.mn f.mc] 26)).alloc (.cells #[.string ⟨#[]⟩,.string ⟨#[]⟩,.slice none 0 0,.slice none 0 0] A2k)).heap[w.heap.size]? =some (.cells f.cells.toArray 26 (0,0)) by
  rw[Below.heap_alloc _ _ _ (by simp)];exact heap_alloc_last w _)
 have HX2:=hzz (show((w.alloc (.cells #[.slice f.pa f.pn f.pc,.int .i64 f.th,.int .i64 f.su,.slice f.fa f.fn f.fc,.slice f.ma f.mn f.mc] 26)).alloc (.cells #[.string ⟨#[]⟩,.string ⟨#[]⟩,.slice none 0 0,.slice none 0 0] A2k)).heap[w.heap.size+1]? =some (.cells u0.cells.toArray A2k (0,0)) by
  have:=heap_alloc_last (w.alloc (.cells #[.slice f.pa f.pn f.pc,.int .i64 f.th,.int .i64 f.su,.slice f.fa f.fn f.fc,.slice f.ma f.mn f.mc] 26)) (.cells #[.string ⟨#[]⟩,.string ⟨#[]⟩,.slice none 0 0,.slice none 0 0] A2k)
  have h2:((w.alloc (.cells #[.slice f.pa f.pn f.pc,.int .i64 f.th,.int .i64 f.su,.slice f.fa f.fn f.fc,.slice f.ma f.mn f.mc] 26)).alloc (.cells #[.string ⟨#[]⟩,.string ⟨#[]⟩,.slice none 0 0,.slice none 0 0] A2k)).heap[w.heap.size+1]? =some (.cells #[.string ⟨#[]⟩,.string ⟨#[]⟩,.slice none 0 0,.slice none 0 0] A2k):=by simpa using this
  exact h2)
 have HRT:=hzz (show Calls Tryz.prog 25 #[.agg #[.slice f.pa f.pn f.pc,.int .i64 f.th,.int .i64 f.su,.slice f.fa f.fn f.fc,.slice f.ma f.mn f.mc]] ((w.alloc (.cells #[.slice f.pa f.pn f.pc,.int .i64 f.th,.int .i64 f.su,.slice f.fa f.fn f.fc,.slice f.ma f.mn f.mc] 26)).alloc (.cells #[.string ⟨#[]⟩,.string ⟨#[]⟩,.slice none 0 0,.slice none 0 0] A2k)) (A0m (A2q f) ((w.alloc (.cells #[.slice f.pa f.pn f.pc,.int .i64 f.th,.int .i64 f.su,.slice f.fa f.fn f.fc,.slice f.ma f.mn f.mc] 26)).alloc (.cells #[.string ⟨#[]⟩,.string ⟨#[]⟩,.slice none 0 0,.slice none 0 0] A2k)))from C8a ((w.alloc (.cells #[.slice f.pa f.pn f.pc,.int .i64 f.th,.int .i64 f.su,.slice f.fa f.fn f.fc,.slice f.ma f.mn f.mc] 26)).alloc (.cells #[.string ⟨#[]⟩,.string ⟨#[]⟩,.slice none 0 0,.slice none 0 0] A2k)) f (h.below hb2) hpn hfit.ps hbig)
 have HSZ:=hzz (show((w.alloc (.cells #[.slice f.pa f.pn f.pc,.int .i64 f.th,.int .i64 f.su,.slice f.fa f.fn f.fc,.slice f.ma f.mn f.mc] 26)).alloc (.cells #[.string ⟨#[]⟩,.string ⟨#[]⟩,.slice none 0 0,.slice none 0 0] A2k)).heap.size=w.heap.size+1+1 by simp)
 clear h hfit hbig hb2 htx;obtain⟨ck,hck⟩:=exz (A2q f);rw[<-hck]at HRT;have HCK:=hzz hck;clear hck;go_enter Tryz.func11,Tryz.ntmps11
 go_upto_region 1 with fail
 generalize(w.alloc (.cells #[.slice f.pa f.pn f.pc,.int .i64 f.th,.int .i64 f.su,.slice f.fa f.fn f.fc,.slice f.ma f.mn f.mc] 26)).alloc (.cells #[.string ⟨#[]⟩,.string ⟨#[]⟩,.slice none 0 0,.slice none 0 0] A2k)=W0 at*
 have c0:=A0a HX1.out 0 rfl;have c1:=A0a HX1.out 1 rfl;have c2:=A0a HX1.out 2 rfl;have c3:=A0a HX1.out 3 rfl;have c4:=A0a HX1.out 4 rfl;dsimp only[KF.cells]at c0 c1 c2 c3 c4
 go_wp2_with fail
 refine HRT.out.mono ?_;rintro e w1 ⟨rfl,hb1⟩;have HB1:=btz HB2 hb1;have HY1:=hzz (A0c HX1.out hb1);have HY2:=hzz (A0c HX2.out hb1)
 have hs1:w.heap.size+1<w1.heap.size:=by have:=hb1.size;have:=HSZ.out;omega
 clear hb1 HRT HB2 HX1 HX2 HSZ c0 c1 c2 c3 c4
 cases ck
 ·have HZW:=hzz (HY2.out);have HBW:=hzz (HB1.out)
  go_upto_region 2 with fail
  refine wp_region_lit ?_;refine wpList_step fun K hK=> ?_
  rw[if_pos (by rfl)];go_step;refine hK _ _ ?_;clear hK K;refine wpList_store_row rfl _ _ _ rfl _ (UU.cells u0).toArray rfl rfl _ _ HZW.out A3e rfl (B8z _) ?_
  go_wp2_with fail
  refine bodyPost_ret (A0d rfl _ _ (w.heap.size+1) A2k (UU.cells u0).toArray (0,0) _ rfl (setRow_heap _ _ _ _ _ _ HZW.out) Tryz.underlying32 rfl A3e) rfl ?_
  exact⟨u0,false,rfl,(by unfold B1n;rw[<-HCK.out];rfl),(fun h=>absurd h (by decide)),fun _=>rfl,A1x HBW.out (by omega) _⟩
 have HST:=hzz (D5u (B3u HCK.out.symm).1);have HFO:=hzz (B3u HCK.out.symm).2
 go_upto_region 4 with fail
 have hal:=A0f w1 (.cells #[.string ⟨#[]⟩,.string ⟨#[]⟩,.slice none 0 0,.slice none 0 0] A2k);have HB3:=btz HB1 hal;have HF3:=hzz (A0c HY1.out hal);have HZ3:=hzz (A0c HY2.out hal)
 have HO3:=hzz (show(w1.alloc (.cells #[.string ⟨#[]⟩,.string ⟨#[]⟩,.slice none 0 0,.slice none 0 0] A2k)).heap[w1.heap.size]? =some (.cells u0.cells.toArray A2k (0,0))from heap_alloc_last w1 (.cells #[.string ⟨#[]⟩,.string ⟨#[]⟩,.slice none 0 0,.slice none 0 0] A2k))
 clear hal HB1 HY1 HY2;generalize w1.alloc _=w2 at*;generalize w1.heap.size=go at*;obtain⟨NM,hNM⟩:∃NM,NM=(A0s f.pool f.th).1:=⟨_,rfl⟩;have HNM:=hzz hNM
 have HNL:=hzz (show NM.length<=65536 by rw[hNM];exact A4s HTX.out _);have HCL:=hzz (A4y w2 f.pa f.pn f.pc f.pool f.th (HR.out.below HB3.out).pool HNN.out);unfold A4f at HCL
 rw[<-hNM]at HCL;clear hNM;generalize(A0s f.pool f.th).2=cb at*;have c0:=A0a HF3.out 0 rfl;have c1:=A0a HF3.out 1 rfl;have c2:=A0a HF3.out 2 rfl;dsimp only[KF.cells]at c0 c1 c2
 go_wp2_with fail
 refine HCL.out.mono ?_;rintro e w3 ⟨rfl,hw3⟩;obtain rfl:w2=w3:=hw3;have fo:=A1b HO3.out 0;have oo:=A0a HO3.out 0 rfl;have lto:=A0v HO3.out;dsimp only[UU.cells,u0]at oo
 go_upto_region 5 with fail
 have HBA:=hzz (HB3.out.setCell (p:=⟨go,0,none⟩) (show w.heap.size<=go by omega) (.string ⟨NM.toArray⟩));have HFA:=hzz (A1d HF3.out (show w.heap.size≠go by omega) 0 (.string ⟨NM.toArray⟩))
 have HZA:=hzz (A1d HZ3.out (show w.heap.size+1≠go by omega) 0 (.string ⟨NM.toArray⟩))
 have HOA:=hzz (show(w2.setCell ⟨go,0,none⟩ (.string ⟨NM.toArray⟩)).heap[go]? =some (.cells (UU.cells ⟨NM,[],none,0,0,[],none,0,0,[]⟩).toArray A2k (0,0))from A1e HO3.out 0 (.string ⟨NM.toArray⟩))
 clear HCL HB3 HF3 HZ3 HO3 fo oo lto c0 c1 c2;generalize w2.setCell ⟨go,0,none⟩ (.string ⟨NM.toArray⟩)=w4 at*;have c0:=A0a HFA.out 0 rfl;have c2:=A0a HFA.out 2 rfl;dsimp only[KF.cells]at c0 c2
 obtain⟨SU,hSU⟩:=exz (if f.su=0 then []else(A0s f.pool f.su).1)
 have HSU:=hzz hSU;have HLC:=hzz (D4u HCK.out.symm HNM.out.symm hSU)
 have HSL:=hzz (show SU.length<=65536 by
  rw[hSU];split
  ·simp
  exact A4s HTX.out _)
 clear hSU
 go_upto_if 27 with fail
 go_cut [] (fun wx=>Hid (Below w.heap.size w wx)/\Hid (wx.heap[w.heap.size]? =some (.cells f.cells.toArray 26 (0,0)))/\Hid (wx.heap[w.heap.size+1]? =some (.cells u0.cells.toArray A2k (0,0)))/\Hid (wx.heap[go]? =some (.cells (UU.cells ⟨NM,SU,none,0,0,[],none,0,0,[]⟩).toArray A2k (0,0))))
 case first=>
  by_cases h0:f.su=0
  ·have e0:(f.su !=0)=false:=by simp[h0]
   have HVE:=hzz (HSU.out.trans (if_pos h0));clear h0
   go_wp2_with fail
   go_meet;exact⟨HBA,HFA,HZA,hzz (by rw[HVE.out];exact HOA.out)⟩
  have e0:(f.su !=0)=true:=by simp[h0]
  have HVE:=hzz (HSU.out.trans (if_neg h0));clear h0;have HCL:=hzz (A4y w4 f.pa f.pn f.pc f.pool f.su (HR.out.below HBA.out).pool HNN.out);unfold A4f at HCL;rw[<-HVE.out]at HCL
  generalize(A0s f.pool f.su).2=cb2 at*
  go_wp2_with fail
  refine HCL.out.mono ?_;rintro e w8 ⟨rfl,hw8⟩;obtain rfl:w4=w8:=hw8;have f3:=A1b HOA.out 1;have z3:=A0a HOA.out 1 rfl;have lz:=A0v HOA.out;dsimp only[UU.cells]at z3
  go_wp2_with fail
  go_meet;exact⟨hzz (HBA.out.setCell (p:=⟨go,1,none⟩) (show w.heap.size<=go by omega) _),hzz (A1d HFA.out (by omega) 1 _),hzz (A1d HZA.out (by omega) 1 _),hzz (A1e HOA.out 1 _)⟩
 clear HBA HFA HZA HOA c0 c2;obtain⟨HBA,HFA,HZA,HOA⟩:=hcut;have c0:=A0a HFA.out 0 rfl;have c2:=A0a HFA.out 2 rfl;have o0:=A0a HOA.out 0 rfl;have o1:=A0a HOA.out 1 rfl
 dsimp only[KF.cells,UU.cells]at c0 c2 o0 o1;have HI1:=hzz (A2y wc NM (by have:=HNL.out;omega));have HI2:=hzz (A2y wc SU (by have:=HSL.out;omega));generalize classB NM=b1 at*
 generalize classB SU=b2 at*;obtain⟨G,hG⟩:∃G,G=(b1&&(decide (f.su=0)||b2)):=⟨_,rfl⟩;have HG:=hzz hG
 have HLD:=hzz (show B1n f=(G&&(f.fields.all (A6u f.pool)&&f.methods.all (A9r f.pool))) by rw[HLC.out,hG,Bool.and_assoc]);clear hG HLC
 go_upto_region 7 with fail
 go_cut [51] (fun s51 wx=>s51= .bool (!G)/\Hid (Below w.heap.size w wx)/\Hid (wx.heap[w.heap.size]? =some (.cells f.cells.toArray 26 (0,0)))/\Hid (wx.heap[w.heap.size+1]? =some (.cells u0.cells.toArray A2k (0,0)))/\Hid (wx.heap[go]? =some (.cells (UU.cells ⟨NM,SU,none,0,0,[],none,0,0,[]⟩).toArray A2k (0,0))))
 case first=>
  go_wp2_with fail
  refine HI1.out.mono ?_;rintro e w9 ⟨rfl,hw9⟩;obtain rfl:wc=w9:=Eq.symm hw9
  cases b1
  ·have HV:=hzz (show G=false from HG.out)
   go_wp2_with fail
   go_meet;exact⟨by rw[HV.out];rfl,HBA,HFA,HZA,HOA⟩
  by_cases h0:f.su=0
  ·have e0:(f.su !=0)=false:=by simp[h0]
   have HV:=hzz (show G=true by rw[HG.out,decide_eq_true h0];rfl);clear h0
   go_wp2_with fail
   go_meet;exact⟨by rw[HV.out];rfl,HBA,HFA,HZA,HOA⟩
  have e0:(f.su !=0)=true:=by simp[h0]
  have HV:=hzz (show G=b2 by rw[HG.out,decide_eq_false h0];rfl);clear h0
  go_wp2_with fail
  refine HI2.out.mono ?_;rintro e w9 ⟨rfl,hw9⟩;obtain rfl:wc=w9:=Eq.symm hw9
  go_wp2_with fail
  go_meet;exact⟨by rw[HV.out],HBA,HFA,HZA,HOA⟩
 clear HBA HFA HZA HOA HI1 HI2 HG c0 c2 o0 o1;obtain⟨rfl,HBA,HFA,HZA,HOA⟩:=hcut
 cases G
 ·have HZW:=hzz (HZA.out);have HBW:=hzz (HBA.out)
  go_upto_region 8 with fail
  refine wp_region_lit ?_;refine wpList_step fun K hK=> ?_
  rw[if_pos (by rfl)];go_step;refine hK _ _ ?_;clear hK K;refine wpList_store_row rfl _ _ _ rfl _ (UU.cells u0).toArray rfl rfl _ _ HZW.out A3e rfl (B8z _) ?_
  go_wp2_with fail
  refine bodyPost_ret (A0d rfl _ _ (w.heap.size+1) A2k (UU.cells u0).toArray (0,0) _ rfl (setRow_heap _ _ _ _ _ _ HZW.out) Tryz.underlying32 rfl A3e) rfl ?_
  exact⟨u0,false,rfl,(by rw[HLD.out];rfl),(fun h=>absurd h (by decide)),fun _=>rfl,A1x HBW.out (by omega) _⟩
 have HC:=hzz (show RlC w wc go f from⟨HFA.out,HZA.out,HBA.out,A0v HOA.out,hs1⟩)
 have HJ:=hzz (show RlJ wc wc go ⟨NM,SU,none,0,0,[],none,0,0,[]⟩from⟨A0j.refl _ _,HOA.out,⟨World.ownsRow_nil _ _ _ _,World.ownsRow_nil _ _ _ _,fun p hp=>by cases hp⟩⟩)
 replace HLD:=hzz (show B1n f=(f.fields.all (A6u f.pool)&&f.methods.all (A9r f.pool)) by rw[HLD.out];rfl);clear HBA HFA HZA HOA;have HWE:∃W,W=wc:=⟨_,rfl⟩;obtain⟨W,hW⟩:=HWE
 rw[<-hW]at HC HJ⊢;clear hW wc;have hgw:w.heap.size+1<go:=hs1;have hgs:go<W.heap.size:=HC.out.gs
 have hfn:f.fn<=64/\f.mn<=64:=by
  obtain⟨q1,q2,-⟩:=A9d HCK.out.symm HR.out;exact⟨q1,q2⟩
 have HMO:=hzz (A9d HCK.out.symm HR.out).2.2;have c3:=A0a (HC.out.fw HJ.out.k) 3 rfl;dsimp only[KF.cells]at c3
 go_wp2_with fail
 go_loopg [56] f.fn (fun gn i wr=>∃(j:Nat) (x:UU),j<=f.fn/\gn=f.fn-j/\i= .int .i64 j/\Hid ((f.fields.take j).all (A6u f.pool)=true)/\Hid (x.p=⟨NM,SU,none,0,0,(f.fields.take j).map (A6t f.pool),none,0,0,[]⟩)/\Hid (RlJ W wr go x))
 case atStart=>exact⟨0,_,by omega,by omega,by go_num,hzz (by simp),hzz rfl,HJ⟩
 clear HJ c3;obtain⟨j,x,hj,rfl,rfl,HE,HX,HJ⟩:=hrel;by_cases hlt:j<f.fn
 ·have hlj:x.fields.length=j:=by
   have h1:=congrArg (fun u=>u.fields.length) HX.out;have h2:=HR.out.fields.1;simp only[UU.p,List.length_map,List.length_take]at h1;omega
  have hcn:x.fn=j:=by
   obtain⟨a9,c9,e9,h9,_⟩:=Ss.ofOwn UF.cells_length (by decide) HJ.out.w.fields
   cases e9
   rw[<-hlj];exact h9.1.symm
  have HCN:=hzz hcn;have HS:=hzz (HR.out.below (HC.out.bw HJ.out.k)).fields;have hj1:(j:Int)<f.fn:=by omega
  obtain⟨hfn1,hfn2⟩:=hfn;obtain⟨bq,ofq,d,hbq,hbl,hs,q⟩:=HS.out.getC j hlt;have q0:=q 0 (by omega);have q1:=q 1 (by omega);have q2:=q 2 (by omega);rw[Nat.add_zero]at q0
  simp only[KD.cells,List.getElem?_cons_zero,List.getElem?_cons_succ]at q0 q1 q2
  have HTK:=hzz (show f.fields.take (j+1)=f.fields.take j++[d] by
   have hjl:=(gsz hs).1;rw[List.take_succ_eq_append_getElem hjl,(gsz hs).2])
  have HDM:=hzz (List.mem_of_getElem? hs);have hmo:=HFO.out d HDM.out;unfold A3b at hmo;simp only[Bool.and_eq_true]at hmo;obtain⟨⟨-,t1⟩,t2⟩:=hmo;obtain⟨n0,n1,n2⟩:=A5a t1
  obtain⟨d0,d1,d2⟩:=A5a t2;obtain⟨sb,hsb⟩:=exz (decide (d.fl=8));have esb:(d.fl==8)=sb:=by rw[hsb,Bool.eq_iff_iff,beq_iff_eq,decide_eq_true_iff]
  obtain⟨NA,hNA⟩:∃NA,NA=(kAt f.pool d.nm).s:=⟨_,rfl⟩;obtain⟨DA,hDA⟩:∃DA,DA=(kAt f.pool d.ds).s:=⟨_,rfl⟩
  have HN1:=hzz (show A1k f.pool d.nm=NA by unfold A1k;rw[t1,if_pos rfl,hNA]);have HN2:=hzz (show A1k f.pool d.ds=DA by unfold A1k;rw[t2,if_pos rfl,hDA])
  have HNL2:=hzz (show NA.length<=65536 by rw[hNA];exact HTX.out _);have HDL2:=hzz (show DA.length<=65536 by rw[hDA];exact HTX.out _);have HKP:=hzz HR.out.pool;have hpl:=HKP.out.1
  have hn65:=HNN.out;have hnl:d.nm<f.pn:=by omega
  have hdl:d.ds<f.pn:=by omega
  have hn0:0<=d.nm:=by omega
  have hd0:0<=d.ds:=by omega
  have hn9:d.nm<1048576:=by omega
  have hd9:d.ds<1048576:=by omega
  obtain⟨b,off,hpa,hpb,-,-,-,-,k1⟩:=HKP.out.at d.nm.toNat (by omega);obtain⟨b',off',e1,-,-,-,-,-,k2⟩:=HKP.out.at d.ds.toNat (by omega);rw[hpa]at e1
  cases e1
  have e1:((d.nm.toNat:Nat):Int)=d.nm:=Int.toNat_of_nonneg (by omega);have e2:((d.ds.toNat:Nat):Int)=d.ds:=Int.toNat_of_nonneg (by omega);rw[e1,<-hNA]at k1;rw[e2,<-hDA]at k2
  have HKA:=hzz k1;have HKB:=hzz k2;have HSB:=hzz hsb;have HPA:=hzz hpa;clear hs q hlt HS hlj hcn t1 t2 n0 n1 n2 d0 d1 d2 e1 e2 k1 k2 hNA hDA hsb hpl HKP hpa hn65
  go_upto_region 12 with fail
  have hb6:=A0f wr (.cells #[.int .i64 d.fl,.int .i64 d.nm,.int .i64 d.ds] 75);have HJ6:=hzz ((HJ.out.below hb6).below (brz.drew))
  have HGD:=hzz (show(wr.alloc (.cells #[.int .i64 d.fl,.int .i64 d.nm,.int .i64 d.ds] 75)).drew.heap[wr.heap.size]? =some (.cells d.cells.toArray 75 (0,0))from heap_alloc_last wr (.cells #[.int .i64 d.fl,.int .i64 d.nm,.int .i64 d.ds] 75))
  clear hb6 HJ q0 q1 q2 hbq hbl;generalize wr.heap.size=gd at*
  go_cut [7] (fun s7 wx=>∃gy:Nat,s7= .pointer (some ⟨gy,0,none⟩)/\Hid (RlJ W wx go x)/\Hid (wx.heap[gy]? =some (.cells (UF.cells ⟨sb,NA,DA⟩).toArray 52 (0,0))))
  case first=>
   refine A0g (QL w.heap.size gd b (off+d.nm.toNat*5+4) (off+d.ds.toNat*5+4) f d NA DA) (.of [(0,true),(1,true),(2,true),(3,true),(4,true),(5,true),(6,true),(7,true),(8,true),(9,true),(10,true),(11,true),(12,true),(13,true),(14,true),(15,true),(16,true),(17,true),(18,false),(19,false)] (.stir [])) (by kernel_rfl) (by kernel_rfl) (fun c a d v w h=>by cases d<;>exact h) ?_
   generalize(wr.alloc (.cells #[.int .i64 d.fl,.int .i64 d.nm,.int .i64 d.ds] 75)).drew=V0 at*;have hbw:=HC.out.bw HJ6.out.k
   have hSw:QL w.heap.size gd b (off+d.nm.toNat*5+4) (off+d.ds.toNat*5+4) f d NA DA V0:=⟨⟨HC.out.fw HJ6.out.k,HGD.out⟩,A0e hbw HKA.out,A0e hbw HKB.out⟩
   have hlts:w.heap.size<V0.heap.size/\gd<V0.heap.size/\b<V0.heap.size:=⟨A0v (HC.out.fw HJ6.out.k),A0v HGD.out,by have:=hbw.size;omega⟩;have HLTS:=hzz hlts;clear hlts hbw
   have l0:=fun z (h:QL w.heap.size gd b (off+d.nm.toNat*5+4) (off+d.ds.toNat*5+4) f d NA DA z)=>A0a h.1.2 0 rfl
   have l1:=fun z (h:QL w.heap.size gd b (off+d.nm.toNat*5+4) (off+d.ds.toNat*5+4) f d NA DA z)=>A0a h.1.2 1 rfl
   have l2:=fun z (h:QL w.heap.size gd b (off+d.nm.toNat*5+4) (off+d.ds.toNat*5+4) f d NA DA z)=>A0a h.1.2 2 rfl
   have l3:=fun z (h:QL w.heap.size gd b (off+d.nm.toNat*5+4) (off+d.ds.toNat*5+4) f d NA DA z)=>A0a h.1.1 0 rfl
   have l4:=fun z (h:QL w.heap.size gd b (off+d.nm.toNat*5+4) (off+d.ds.toNat*5+4) f d NA DA z)=>h.2.1
   have l5:=fun z (h:QL w.heap.size gd b (off+d.nm.toNat*5+4) (off+d.ds.toNat*5+4) f d NA DA z)=>h.2.2
   dsimp only[KD.cells,KF.cells]at l0 l1 l2 l3;rw[HPA.out]at l3
   iterate 18
    refine A0b fun K hK=>tkF ?_
    go_simp
    try go_bits
    refine hK _ _ ?_;clear hK K
   refine A0b fun K hK=>alF ?_
   go_step;have hal:=A0f V0 (.cells #[.bool false,.string ⟨#[]⟩,.string ⟨#[]⟩] 52);have HG:=hzz (heap_alloc_last V0 (.cells #[.bool false,.string ⟨#[]⟩,.string ⟨#[]⟩] 52))
   have hSn:QL w.heap.size gd b (off+d.nm.toNat*5+4) (off+d.ds.toNat*5+4) f d NA DA (V0.alloc (.cells #[.bool false,.string ⟨#[]⟩,.string ⟨#[]⟩] 52)):=hSw.below hal
   have HJ7:=hzz (HJ6.out.below hal);have HBA:=hzz hal;refine⟨hSn,hK _ _ ?_⟩;clear hK K hSw hSn hal;generalize V0.alloc _=V1 at*;have hgy:V0.heap.size<=V0.heap.size:=Nat.le_refl _
   refine A0b fun K hK=>alF ?_
   refine wp_store_row 52 _ _ rfl V0.heap.size (UF.cells ⟨sb,NA,DA⟩).toArray rfl rfl 52 (UF.cells ⟨false,[],[]⟩).toArray HG.out B2s rfl (E3u _) ?_
   have hbz:Below V0.heap.size V0 (V1.setRow V0.heap.size (UF.cells ⟨sb,NA,DA⟩).toArray):=A1x HBA.out hgy _;have HJ8:=hzz (HJ6.out.below hbz)
   have hSn:QL w.heap.size gd b (off+d.nm.toNat*5+4) (off+d.ds.toNat*5+4) f d NA DA (V1.setRow V0.heap.size (UF.cells ⟨sb,NA,DA⟩).toArray):=QL.row ⟨⟨HC.out.fw HJ6.out.k,HGD.out⟩,A0e (HC.out.bw HJ6.out.k) HKA.out,A0e (HC.out.bw HJ6.out.k) HKB.out⟩ hbz HLTS.out
   have HZZ:=hzz (setRow_heap V1 V0.heap.size _ (UF.cells ⟨sb,NA,DA⟩).toArray _ _ HG.out);refine⟨hSn,hK _ _ ?_⟩;clear hK K HG hbz HBA HJ7
   generalize V1.setRow V0.heap.size (UF.cells ⟨sb,NA,DA⟩).toArray=VZ at*;refine A0k (fun y=>y=VZ) (fun y hy=>hy▸hSn) rfl ?_;refine A0n (fun y hy=> ?_)
   obtain rfl:VZ=y:=Eq.symm hy;clear hSn
   go_wp2_with fail
   go_meet;exact⟨_,rfl,HJ8,HZZ⟩
  clear HJ6 HGD HKA HKB esb hnl hdl hn0 hd0 hn9 hd9;obtain⟨gy,rfl,HJ8,HZ8⟩:=hcut;have HFV:=hzz (show A6t f.pool d=⟨sb,NA,DA⟩ by unfold A6t;rw[HN1.out,HN2.out,HSB.out])
  have HFC:=hzz (show A6u f.pool d=(A7d NA&&typeB DA) by unfold A6u;rw[HN1.out,HN2.out]);have HI1:=hzz (A9b wc NA HNL2.out);have HI2:=hzz (A7p wc DA HDL2.out)
  have HBF:=hzz (show ∀h:A6u f.pool d=false,f.fields.all (A6u f.pool)=false from fun h=>by
   rw[List.all_eq_false];exact⟨d,HDM.out,by rw[h];decide⟩)
  generalize A7d NA=b1 at*;generalize typeB DA=b2 at*;have z0:=A0a HZ8.out 0 rfl;have z1:=A0a HZ8.out 1 rfl;have z2:=A0a HZ8.out 2 rfl;dsimp only[UF.cells]at z0 z1 z2
  go_wp2_with fail
  refine HI1.out.mono ?_;rintro e w9 ⟨rfl,hw9⟩;obtain rfl:wc=w9:=Eq.symm hw9
  cases b1
  ·have HFF:=hzz (HBF.out (by rw[HFC.out];rfl));have HZW:=hzz (HC.out.zw HJ8.out.k);have HBW:=hzz (HC.out.bw HJ8.out.k)
   go_upto_region 14 with fail
   refine wp_region_lit ?_;refine wpList_step fun K hK=> ?_
   rw[if_pos (by rfl)];go_step;refine hK _ _ ?_;clear hK K;refine wpList_store_row rfl _ _ _ rfl _ (UU.cells u0).toArray rfl rfl _ _ HZW.out A3e rfl (B8z _) ?_
   go_wp2_with fail
   refine bodyPost_ret (A0d rfl _ _ (w.heap.size+1) A2k (UU.cells u0).toArray (0,0) _ rfl (setRow_heap _ _ _ _ _ _ HZW.out) Tryz.underlying32 rfl A3e) rfl ?_
   exact⟨u0,false,rfl,(by rw[HLD.out,HFF.out];rfl),(fun h=>absurd h (by decide)),fun _=>rfl,A1x HBW.out (by omega) _⟩
  go_wp2_with fail
  refine HI2.out.mono ?_;rintro e w9 ⟨rfl,hw9⟩;obtain rfl:wc=w9:=Eq.symm hw9
  cases b2
  ·have HFF:=hzz (HBF.out (by rw[HFC.out];rfl));have HZW:=hzz (HC.out.zw HJ8.out.k);have HBW:=hzz (HC.out.bw HJ8.out.k)
   go_upto_region 14 with fail
   refine wp_region_lit ?_;refine wpList_step fun K hK=> ?_
   rw[if_pos (by rfl)];go_step;refine hK _ _ ?_;clear hK K;refine wpList_store_row rfl _ _ _ rfl _ (UU.cells u0).toArray rfl rfl _ _ HZW.out A3e rfl (B8z _) ?_
   go_wp2_with fail
   refine bodyPost_ret (A0d rfl _ _ (w.heap.size+1) A2k (UU.cells u0).toArray (0,0) _ rfl (setRow_heap _ _ _ _ _ _ HZW.out) Tryz.underlying32 rfl A3e) rfl ?_
   exact⟨u0,false,rfl,(by rw[HLD.out,HFF.out];rfl),(fun h=>absurd h (by decide)),fun _=>rfl,A1x HBW.out (by omega) _⟩
  have o2:=A0a HJ8.out.o 2 rfl;dsimp only[UU.cells]at o2;have hcl:x.fn<=65536:=by rw[HCN.out];omega
  clear HBF HI1 HI2
  go_wp2_with (at_builtin;refine A0r D0u rfl _ _ rfl W.heap.size _ x.fn _ rfl HJ8.out.w.fields _ 1 _ _ rfl rfl rfl rfl (by omega) (by unfold maxLen;omega) HJ8.out.k.size ?_;intro v9 w9 hown9 hg9 hb9;have hk9:=A3a.app HJ8.out.w.fields hg9;have hown8:w9.ownsRow W.heap.size 52 3 v9 (x.fn+1) ((x.fields++[(⟨sb,NA,DA⟩:UF)]).flatMap UF.cells):=(by rw[List.flatMap_append];exact hown9);obtain⟨a9,c9,rfl,-,-⟩:=Ss.ofOwn UF.cells_length (by decide) hown8;have hB9:A0j (fun k=>W.heap.size<=k) wc w9:=A0j.ofB hb9 (Nat.le_trans (by simp) hg9.size);have HJ9:=hzz (HJ8.out.app hB9 hk9 (HJ8.out.w.fields1 hk9 hown8) HC.out.gs);have fo:=A1b HJ9.out.2.1 2;have lto:=A0v HJ9.out.2.1;have co:=A0a HJ9.out.2.1 2 rfl;dsimp only[UU.cells]at co;clear hown9 hown8 hg9 hb9 hk9 hB9)
  have HJ10:=HJ9.out.2.2 2 (.slice a9 (x.fn+1) c9) rfl;have HX10:=hzz (UU.p_fields1 HX.out a9 (x.fn+1) c9 (⟨sb,NA,DA⟩:UF));have HJ11:=hzz HJ10
  have HX11:=hzz (show UU.p {x with fa:=a9,fn:=x.fn+1,fc:=c9,fields:=x.fields++[(⟨sb,NA,DA⟩:UF)]}=⟨NM,SU,none,0,0,(f.fields.take (j+1)).map (A6t f.pool),none,0,0,[]⟩ by
   rw[HX10.out,HTK.out,List.map_append,List.map_singleton,HFV.out])
  have HE11:=hzz (show(f.fields.take (j+1)).all (A6u f.pool)=true by
   rw[HTK.out,List.all_append,HE.out];simp[HFC.out])
  clear HJ10 HX10 HJ9 HX HE HJ8 HZ8 fo lto co z0 z1 z2 o2;go_roundg (f.fn-(j+1))
  case measure=>omega
  exact⟨j+1,_,by omega,rfl,by go_num,HE11,HX11,HJ11⟩
 have hje:j=f.fn:=by omega
 have hfull:f.fields.take j=f.fields:=List.take_of_length_le (by rw[HR.out.fields.1];omega);rw[hfull]at HE HX;have hnl:¬((j:Int)<f.fn):=by omega
 clear hje;have c4:=A0a (HC.out.fw HJ.out.k) 4 rfl;dsimp only[KF.cells]at c4
 go_wp2_with fail
 go_loopg [99] f.mn (fun gn i wr2=>∃(jm:Nat) (x5:UU),jm<=f.mn/\gn=f.mn-jm/\i= .int .i64 jm/\Hid ((f.methods.take jm).all (A9r f.pool)=true)/\Hid (x5.p=⟨NM,SU,none,0,0,f.fields.map (A6t f.pool),none,0,0,(f.methods.take jm).map (B1g f.pool)⟩)/\Hid (RlJ W wr2 go x5))
 case atStart=>exact⟨0,x,by omega,by omega,by go_num,hzz (by simp),hzz (by rw[HX.out];rfl),HJ⟩
 clear HJ HX c4;obtain⟨jm,x5,hj5,rfl,rfl,HE5,HX5,HJ5⟩:=hrel;by_cases hlt:jm<f.mn
 ·have hlj:x5.methods.length=jm:=by
   have h1:=congrArg (fun u=>u.methods.length) HX5.out;have h2:=HR.out.methods.1;simp only[UU.p,List.length_map,List.length_take]at h1;omega
  have hcn:x5.mn=jm:=by
   obtain⟨a9,c9,e9,h9,_⟩:=Ss.ofOwn UM.cells_length (by decide) HJ5.out.w.methods
   cases e9
   rw[<-hlj];exact h9.1.symm
  have HCN:=hzz hcn;have HS:=hzz (HR.out.below (HC.out.bw HJ5.out.k)).methods;have hj1:(jm:Int)<f.mn:=by omega
  obtain⟨hfn1,hfn2⟩:=hfn;obtain⟨bq,ofq,m,hbq,hbl,hs,q⟩:=HS.out.getC jm hlt;have q0:=q 0 (by omega);have q1:=q 1 (by omega);have q2:=q 2 (by omega);have q3:=q 3 (by omega)
  have q4:=q 4 (by omega);have q5:=q 5 (by omega);have q6:=q 6 (by omega);have q7:=q 7 (by omega);rw[Nat.add_zero]at q0
  simp only[KM.cells,List.getElem?_cons_zero,List.getElem?_cons_succ]at q0 q1 q2 q3 q4 q5 q6 q7
  have HTK:=hzz (show f.methods.take (jm+1)=f.methods.take jm++[m] by
   have hjl:=(gsz hs).1;rw[List.take_succ_eq_append_getElem hjl,(gsz hs).2])
  have HMM:=hzz (List.mem_of_getElem? hs);clear hs q hlt HS hlj hcn
  go_upto_region 20 with fail
  have hb6:=A0f wr (.cells #[.int .i64 m.fl,.int .i64 m.nm,.int .i64 m.ds,.int .i64 m.st,.int .i64 m.lo,.slice m.ca m.cn m.cc,.slice m.ta m.tn m.tc,.slice m.ma m.mn m.mc] 65)
  have HJ6:=hzz (HJ5.out.below hb6)
  have HGM:=hzz (show(wr.alloc (.cells #[.int .i64 m.fl,.int .i64 m.nm,.int .i64 m.ds,.int .i64 m.st,.int .i64 m.lo,.slice m.ca m.cn m.cc,.slice m.ta m.tn m.tc,.slice m.ma m.mn m.mc] 65)).heap[wr.heap.size]? =some (.cells m.cells.toArray 65 (0,0))from heap_alloc_last wr (.cells #[.int .i64 m.fl,.int .i64 m.nm,.int .i64 m.ds,.int .i64 m.st,.int .i64 m.lo,.slice m.ca m.cn m.cc,.slice m.ta m.tn m.tc,.slice m.ma m.mn m.mc] 65))
  clear hb6 HJ5 q0 q1 q2 q3 q4 q5 q6 q7 hbq hbl;generalize wr.alloc _=w6 at*;generalize wr.heap.size=gm at*;have p0:=A0a HGM.out 0 rfl;have p1:=A0a HGM.out 1 rfl
  have p2:=A0a HGM.out 2 rfl;have p3:=A0a HGM.out 3 rfl;have p4:=A0a HGM.out 4 rfl;have p5:=A0a HGM.out 5 rfl;have p6:=A0a HGM.out 6 rfl;have p7:=A0a HGM.out 7 rfl
  have c0:=A0a (HC.out.fw HJ6.out.k) 0 rfl;dsimp only[KM.cells,KF.cells]at p0 p1 p2 p3 p4 p5 p6 p7 c0;have HR6:=hzz (HR.out.below (HC.out.bw HJ6.out.k))
  have HMT:=hzz (D3j w6 f.pa f.pn f.pc f.pool m HR6.out.pool HNN.out HTX.out HST.out (HR6.out.each m HMM.out) (HMO.out m HMM.out));have hg6:W.heap.size<=w6.heap.size:=HJ6.out.k.size
  go_wp2_with fail
  refine HMT.out.mono ?_;rintro e w7 ⟨y,ok,rfl,hok,hy,hb7⟩;obtain⟨xst,xnm,xds,xsk,xlo,xca,xcn,xcc,xcode,xta,xtn,xtc,xtr,xma,xmn,xmc,xmp⟩:=y;have HJ7:=hzz (HJ6.out.below hb7)
  have HK7:=hzz hok;have HY7:=hzz hy;clear hok hy hb7 HJ6 HMT HGM HR6 p0 p1 p2 p3 p4 p5 p6 p7 c0;dsimp only[UM.cells]
  go_upto_region 21 with fail
  have hal:=A0f w7 (.cells #[.bool xst,.string ⟨xnm.toArray⟩,.string ⟨xds.toArray⟩,.int .i64 xsk,.int .i64 xlo,.slice xca xcn xcc,.slice xta xtn xtc,.slice xma xmn xmc] A0w)
  have HJ8:=hzz (HJ7.out.below hal)
  have HGX:=hzz (heap_alloc_last w7 (.cells #[.bool xst,.string ⟨xnm.toArray⟩,.string ⟨xds.toArray⟩,.int .i64 xsk,.int .i64 xlo,.slice xca xcn xcc,.slice xta xtn xtc,.slice xma xmn xmc] A0w))
  have HY8:=hzz (fun h=>show UM.p ⟨xst,xnm,xds,xsk,xlo,xca,xcn,xcc,xcode,xta,xtn,xtc,xtr,xma,xmn,xmc,xmp⟩=B1g f.pool m/\UM.Own (⟨xst,xnm,xds,xsk,xlo,xca,xcn,xcc,xcode,xta,xtn,xtc,xtr,xma,xmn,xmc,xmp⟩:UM) (w7.alloc (.cells #[.bool xst,.string ⟨xnm.toArray⟩,.string ⟨xds.toArray⟩,.int .i64 xsk,.int .i64 xlo,.slice xca xcn xcc,.slice xta xtn xtc,.slice xma xmn xmc] A0w)) W.heap.size from⟨(HY7.out h).1,((HY7.out h).2.keepP (A0j.of (p:=fun _=>False) hal) (fun _ hx=>hx.elim)).mono hg6⟩)
  clear hal HJ7 HY7;generalize w7.alloc _=wc at*;generalize w7.heap.size=gx at*
  cases ok
  ·have HFF:=hzz (show f.methods.all (A9r f.pool)=false by
    rw[List.all_eq_false];exact⟨m,HMM.out,by rw[<-HK7.out];decide⟩)
   have HZW:=hzz (HC.out.zw HJ8.out.k);have HBW:=hzz (HC.out.bw HJ8.out.k)
   go_upto_region 22 with fail
   refine wp_region_lit ?_;refine wpList_step fun K hK=> ?_
   rw[if_pos (by rfl)];go_step;refine hK _ _ ?_;clear hK K;refine wpList_store_row rfl _ _ _ rfl _ (UU.cells u0).toArray rfl rfl _ _ HZW.out A3e rfl (B8z _) ?_
   go_wp2_with fail
   refine bodyPost_ret (A0d rfl _ _ (w.heap.size+1) A2k (UU.cells u0).toArray (0,0) _ rfl (setRow_heap _ _ _ _ _ _ HZW.out) Tryz.underlying32 rfl A3e) rfl ?_
   exact⟨u0,false,rfl,(by rw[HLD.out,HFF.out];simp),(fun h=>absurd h (by decide)),fun _=>rfl,A1x HBW.out (by omega) _⟩
  have HYA:=hzz (HY8.out (by trivial));clear HY8;have z0:=A0a HGX.out 0 rfl;have z1:=A0a HGX.out 1 rfl;have z2:=A0a HGX.out 2 rfl;have z3:=A0a HGX.out 3 rfl
  have z4:=A0a HGX.out 4 rfl;have z5:=A0a HGX.out 5 rfl;have z6:=A0a HGX.out 6 rfl;have z7:=A0a HGX.out 7 rfl;have o3:=A0a HJ8.out.o 3 rfl;dsimp only[UU.cells]at o3
  have hcl:x5.mn<=65536:=by rw[HCN.out];omega
  go_wp2_with (at_builtin;refine A0r D3q rfl _ _ rfl W.heap.size _ x5.mn _ rfl HJ8.out.w.methods _ 1 _ _ rfl rfl rfl rfl (by omega) (by unfold maxLen;omega) HJ8.out.k.size ?_;intro v9 w9 hown9 hg9 hb9;have hk9:=A3a.app HJ8.out.w.methods hg9;have hown8:w9.ownsRow W.heap.size A0w 8 v9 (x5.mn+1) ((x5.methods++[(⟨xst,xnm,xds,xsk,xlo,xca,xcn,xcc,xcode,xta,xtn,xtc,xtr,xma,xmn,xmc,xmp⟩:UM)]).flatMap UM.cells):=(by rw[List.flatMap_append];exact hown9);obtain⟨a9,c9,rfl,-,-⟩:=Ss.ofOwn UM.cells_length (by decide) hown8;have hB9:A0j (fun k=>W.heap.size<=k) wc w9:=A0j.ofB hb9 (Nat.le_trans (by simp) hg9.size);have HJ9:=hzz (HJ8.out.app hB9 hk9 (HJ8.out.w.methods1 hk9 hown8 (HYA.out.2.keptT hk9 (by decide) (by decide) (by decide) (by decide))) HC.out.gs);have fo:=A1b HJ9.out.2.1 3;have lto:=A0v HJ9.out.2.1;have co:=A0a HJ9.out.2.1 3 rfl;dsimp only[UU.cells]at co;clear hown9 hown8 hg9 hb9 hk9 hB9)
  have HJ10:=HJ9.out.2.2 3 (.slice a9 (x5.mn+1) c9) rfl;have HX10:=hzz (UU.p_methods1 HX5.out a9 (x5.mn+1) c9 (⟨xst,xnm,xds,xsk,xlo,xca,xcn,xcc,xcode,xta,xtn,xtc,xtr,xma,xmn,xmc,xmp⟩:UM))
  have HJ11:=hzz HJ10
  have HX11:=hzz (show UU.p {x5 with ma:=a9,mn:=x5.mn+1,mc:=c9,methods:=x5.methods++[(⟨xst,xnm,xds,xsk,xlo,xca,xcn,xcc,xcode,xta,xtn,xtc,xtr,xma,xmn,xmc,xmp⟩:UM)]}=⟨NM,SU,none,0,0,f.fields.map (A6t f.pool),none,0,0,(f.methods.take (jm+1)).map (B1g f.pool)⟩ by
   rw[HX10.out,HTK.out,List.map_append,List.map_singleton,HYA.out.1])
  have HE11:=hzz (show(f.methods.take (jm+1)).all (A9r f.pool)=true by
   rw[HTK.out,List.all_append,HE5.out];simp[<-HK7.out])
  clear HJ10 HX10 HJ9 HX5 HE5 HJ8 HGX HK7 HYA fo lto co z0 z1 z2 z3 z4 z5 z6 z7 o3;go_roundg (f.mn-(jm+1))
  case measure=>omega
  exact⟨jm+1,_,by omega,rfl,by go_num,HE11,HX11,HJ11⟩
 have hje:jm=f.mn:=by omega
 have hfull:f.methods.take jm=f.methods:=List.take_of_length_le (by rw[HR.out.methods.1];omega);rw[hfull]at HE5 HX5;have hnl2:¬((jm:Int)<f.mn):=by omega
 clear hje;have HLV:=hzz (show B6u f=⟨NM,SU,none,0,0,f.fields.map (A6t f.pool),none,0,0,f.methods.map (B1g f.pool)⟩ by unfold B6u;rw[HNM.out,HSU.out]);have HZW:=hzz (HC.out.zw HJ5.out.k)
 go_upto_region 25 with fail
 refine wp_region_lit ?_;refine A0i rfl _ _ rfl _ rfl _ _ _ _ HJ5.out.o Tryz.underlying32 rfl A3e ?_;refine wpList_store_row rfl _ _ _ rfl _ _ rfl rfl _ _ HZW.out A3e rfl (B8z _) ?_
 go_wp2_with fail
 refine bodyPost_ret (A0d rfl _ _ (w.heap.size+1) A2k (UU.cells _).toArray (0,0) _ rfl (setRow_heap _ _ _ _ _ _ HZW.out) Tryz.underlying32 rfl A3e) rfl ?_
 exact⟨_,true,rfl,(by rw[HLD.out,HE.out,HE5.out];rfl),(fun _=>⟨HX5.out.trans HLV.out.symm,(HJ5.out.w.keepP (A0j.setrow (A0j.refl (fun k=>k=w.heap.size+1) _) (.inl rfl) _) (fun y hy=> .inl (by have:=HC.out.gs;have:=HC.out.g1;omega))).mono HC.out.b.size⟩),(fun h=>absurd h (by decide)),A1x (HC.out.bw HJ5.out.k) (by omega) _⟩
end
end Go.Proofs.YtclpkipaehpkdaaGreatDoor
