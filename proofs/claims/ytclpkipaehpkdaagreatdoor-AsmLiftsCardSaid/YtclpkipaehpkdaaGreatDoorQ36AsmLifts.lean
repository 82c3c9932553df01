/- asm: own texts, merged (wip/merge3.py). No condition. -/
import Derived.Test.YtclpkipaehpkdaaGreatDoorQ24AsmLifts
import Derived.Test.YtclpkipaehpkdaaGreatDoorQ17AsmLifts
import Derived.Test.YtclpkipaehpkdaaGreatDoorQ35AsmLifts
import Derived.Test.YtclpkipaehpkdaaGreatDoorQ01AsmLifts
set_option linter.unusedVariables false
set_option linter.unusedSimpArgs false
set_option maxRecDepth 100000
set_option maxHeartbeats 64000000
namespace Go.Proofs.YtclpkipaehpkdaaGreatDoor
section
open Go.ChangeShapes Go.WideShapes Go.ChangeAt Go.RowKit
theorem D3u{L:List KV}(hp:A5a L=true):D6u L:=by
 intro i h8
 have hl:i.toNat<L.length:=by
  refine Nat.lt_of_not_le fun hh=> ?_
  unfold kAt at h8;rw[List.getD_eq_getElem?_getD,List.getElem?_eq_none hh]at h8;exact absurd h8 (by decide)
 have e:kAt L i=kAt L (i.toNat:Int):=by
  unfold kAt;rw[Int.toNat_natCast]
 rw[e]at h8⊢;unfold A5a at hp;simp only[Bool.and_eq_true,List.all_eq_true]at hp;have h2:=hp.2 i.toNat (List.mem_range.2 hl);unfold A1h at h2;simp only[Bool.and_eq_true]at h2;replace h2:=h2.2
 unfold A1j at h2;simp only[h8]at h2;simpa using h2
structure RlC(w W:World)(go:Nat)(f:KF):Prop where
 f:W.heap[w.heap.size]? =some (.cells f.cells.toArray 26 (0,0))
 z:W.heap[w.heap.size+1]? =some (.cells u0.cells.toArray A1y (0,0))
 b:Below w.heap.size w W
 gs:go<W.heap.size
 g1:w.heap.size+1<go
abbrev GL(go:Nat):Nat→Prop:=fun k=>k=go
theorem RlC.fw{w W wr:World}{go:Nat}{f:KF}(h:RlC w W go f)(k:A0j (GL go) W wr):wr.heap[w.heap.size]? =some (.cells f.cells.toArray 26 (0,0)):=k.row h.f (by have:=h.g1;show ¬(_=_);omega)
theorem RlC.zw{w W wr:World}{go:Nat}{f:KF}(h:RlC w W go f)(k:A0j (GL go) W wr):wr.heap[w.heap.size+1]? =some (.cells u0.cells.toArray A1y (0,0)):=k.row h.z (by have:=h.g1;show ¬(_=_);omega)
theorem RlC.bw{w W wr:World}{go:Nat}{f:KF}(h:RlC w W go f)(k:A0j (GL go) W wr):Below w.heap.size w wr:=k.below h.b (Nat.le_refl _) (fun x hx=>by have:=h.g1;have hx':x=go:=hx;omega)
structure RlJ(W wr:World)(go:Nat)(x:UU):Prop where
 k:A0j (GL go) W wr
 o:wr.heap[go]? =some (.cells x.cells.toArray A1y (0,0))
 w:x.Own wr W.heap.size
theorem RlJ.below{W wr w9:World}{go:Nat}{x:UU}(h:RlJ W wr go x)(hb:Below wr.heap.size wr w9):RlJ W w9 go x:=
 ⟨h.k.trans (A0j.of hb),A0c h.o hb,h.w.keepP (A0j.of (p:=fun _=>False) hb) (fun _ hx=>hx.elim)⟩
theorem RlJ.app{W wr w9:World}{go:Nat}{x x':UU}{e:TypeId}(h:RlJ W wr go x)(hB:A0j (fun k=>W.heap.size≤k) wr w9)(ht:A3a e wr w9)(hw:x'.Own w9 W.heap.size)(hgo:go<W.heap.size)(hme:A1y≠e:=by decide):
  A0j (GL go) W w9∧w9.heap[go]? =some (.cells x.cells.toArray A1y (0,0))∧∀(o:Nat) (v:Value),x'.cells.toArray=x.cells.toArray.setIfInBounds o v→RlJ W (w9.setCell ⟨go,o,none⟩ v) go x':=by
 have hk9:=h.k.new hB;have ho9:=ht.2 _ _ _ _ h.o hme;refine⟨hk9,ho9,fun o v hc=> ?_⟩;have hs:A0j (GL go) w9 (w9.setCell ⟨go,o,none⟩ v):=A0j.set (A0j.refl (GL go) w9) (.inl rfl) o v
 refine⟨hk9.trans hs,?_,hw.keepP hs (fun y hy=> .inl (by have hy':y=go:=hy;omega))⟩;have:=A1d ho9 o v;rw[hc];exact this
def D4s(f:KF)(w:World)(e:Ending)(w':World):Prop:=
 ∃(u:UU) (ok:Bool),e= .returned (.tuple #[.agg u.cells.toArray,.bool ok])∧ok=B1c f∧(ok=true→u.p=B8i f∧u.Own w' w.heap.size)∧(ok=false→u=u0)∧Below w.heap.size w w'
theorem D4d{f:KF}{NM SU:List UInt8}(hc:A2i f=true)(h1:(A0s f.pool f.th).1=NM)(h2:SU=if f.su=0 then []else(A0s f.pool f.su).1):
  B1c f=(classB NM&&((decide (f.su=0)||classB SU)&&(f.fields.all (A8e f.pool)&&f.methods.all (B0j f.pool)))):=by
 unfold B1c;rw[hc,A9f,A9f,h1];by_cases h0:f.su=0
 ·simp[h0]
 ·rw[h2,if_neg h0];simp
def QL(s gd b o1 o2:Nat)(f:KF)(d:KD)(nm ds:List UInt8)(w:World):Prop:=(w.heap[s]? =some (.cells f.cells.toArray 26 (0,0))∧w.heap[gd]? =some (.cells d.cells.toArray 75 (0,0)))∧w.cell? ⟨b,o1,none⟩=some (.string ⟨nm.toArray⟩)∧w.cell? ⟨b,o2,none⟩=some (.string ⟨ds.toArray⟩)
theorem QL.below{s gd b o1 o2:Nat}{f:KF}{d:KD}{nm ds:List UInt8}{w w':World}(h:QL s gd b o1 o2 f d nm ds w)(hb:Below w.heap.size w w'):QL s gd b o1 o2 f d nm ds w':=⟨⟨A0c h.1.1 hb,A0c h.1.2 hb⟩,A0f hb h.2.1,A0f hb h.2.2⟩
theorem QL.row{s gd b o1 o2:Nat}{f:KF}{d:KD}{nm ds:List UInt8}{w w':World}(h:QL s gd b o1 o2 f d nm ds w){B:Nat}(hb:Below B w w')(hB:s<B∧gd<B∧b<B):QL s gd b o1 o2 f d nm ds w':=
 ⟨⟨by rw[hb.block s hB.1];exact h.1.1,by rw[hb.block gd hB.2.1];exact h.1.2⟩,by rw[hb.cell (show(⟨b,o1,none⟩:Addr).block<B from hB.2.2)];exact h.2.1,by rw[hb.cell (show(⟨b,o2,none⟩:Addr).block<B from hB.2.2)];exact h.2.2⟩
theorem B3n{f:KF}(h:A2i f=true):A5a f.pool=true∧∀d∈f.fields,A3d f.pool d.fl d.nm d.ds=true:=by
 unfold A2i at h;simp only[Bool.and_eq_true,List.all_eq_true]at h;exact⟨h.1.1.1.1.1,h.1.2⟩
theorem D0k(w:World)(f:KF)(h:f.Rd w)(hfit:f.Fit)(hbig:f.Big):
  Calls Tryz.prog 11 #[.agg #[.slice f.pa f.pn f.pc,.int .i64 f.th,.int .i64 f.su,.slice f.fa f.fn f.fc,.slice f.ma f.mn f.mc]] w (D4s f w):=by
 have htx:=B1n h hfit;have hpn:=hfit.pn;have HR:=Lib.hid h;have HTX:=Lib.hid htx;have HNN:=Lib.hid hpn
 have hb2:Below w.heap.size w ((w.alloc (.cells #[.slice f.pa f.pn f.pc,.int .i64 f.th,.int .i64 f.su,.slice f.fa f.fn f.fc,.slice f.ma f.mn f.mc] 26)).alloc (.cells #[.string ⟨#[]⟩,.string ⟨#[]⟩,.slice none 0 0,.slice none 0 0] A1y)):=((Below.refl w.heap.size w).alloc (Nat.le_refl _) _).alloc (by simp) _
 have HB2:=Lib.hid hb2
 have HX1:=Lib.hid (show((w.alloc (.cells #[.slice f.pa f.pn f.pc,.int .i64 f.th,.int .i64 f.su,.slice f.fa f.fn f.fc,.slice f.ma f.mn f.mc] 26)).alloc (.cells #[.string ⟨#[]⟩,.string ⟨#[]⟩,.slice none 0 0,.slice none 0 0] A1y)).heap[w.heap.size]? =some (.cells f.cells.toArray 26 (0,0)) by
  rw[Below.heap_alloc _ _ _ (by simp)];exact heap_alloc_last w _)
 have HX2:=Lib.hid (show((w.alloc (.cells #[.slice f.pa f.pn f.pc,.int .i64 f.th,.int .i64 f.su,.slice f.fa f.fn f.fc,.slice f.ma f.mn f.mc] 26)).alloc (.cells #[.string ⟨#[]⟩,.string ⟨#[]⟩,.slice none 0 0,.slice none 0 0] A1y)).heap[w.heap.size+1]? =some (.cells u0.cells.toArray A1y (0,0)) by
  have:=heap_alloc_last (w.alloc (.cells #[.slice f.pa f.pn f.pc,.int .i64 f.th,.int .i64 f.su,.slice f.fa f.fn f.fc,.slice f.ma f.mn f.mc] 26)) (.cells #[.string ⟨#[]⟩,.string ⟨#[]⟩,.slice none 0 0,.slice none 0 0] A1y)
  have h2:((w.alloc (.cells #[.slice f.pa f.pn f.pc,.int .i64 f.th,.int .i64 f.su,.slice f.fa f.fn f.fc,.slice f.ma f.mn f.mc] 26)).alloc (.cells #[.string ⟨#[]⟩,.string ⟨#[]⟩,.slice none 0 0,.slice none 0 0] A1y)).heap[w.heap.size+1]? =some (.cells #[.string ⟨#[]⟩,.string ⟨#[]⟩,.slice none 0 0,.slice none 0 0] A1y):=by simpa using this
  exact h2)
 have HRT:=Lib.hid (show Calls Tryz.prog 25 #[.agg #[.slice f.pa f.pn f.pc,.int .i64 f.th,.int .i64 f.su,.slice f.fa f.fn f.fc,.slice f.ma f.mn f.mc]] ((w.alloc (.cells #[.slice f.pa f.pn f.pc,.int .i64 f.th,.int .i64 f.su,.slice f.fa f.fn f.fc,.slice f.ma f.mn f.mc] 26)).alloc (.cells #[.string ⟨#[]⟩,.string ⟨#[]⟩,.slice none 0 0,.slice none 0 0] A1y)) (A0k (A2i f) ((w.alloc (.cells #[.slice f.pa f.pn f.pc,.int .i64 f.th,.int .i64 f.su,.slice f.fa f.fn f.fc,.slice f.ma f.mn f.mc] 26)).alloc (.cells #[.string ⟨#[]⟩,.string ⟨#[]⟩,.slice none 0 0,.slice none 0 0] A1y)))from C6g ((w.alloc (.cells #[.slice f.pa f.pn f.pc,.int .i64 f.th,.int .i64 f.su,.slice f.fa f.fn f.fc,.slice f.ma f.mn f.mc] 26)).alloc (.cells #[.string ⟨#[]⟩,.string ⟨#[]⟩,.slice none 0 0,.slice none 0 0] A1y)) f (h.below hb2) hpn hfit.ps hbig)
 have HSZ:=Lib.hid (show((w.alloc (.cells #[.slice f.pa f.pn f.pc,.int .i64 f.th,.int .i64 f.su,.slice f.fa f.fn f.fc,.slice f.ma f.mn f.mc] 26)).alloc (.cells #[.string ⟨#[]⟩,.string ⟨#[]⟩,.slice none 0 0,.slice none 0 0] A1y)).heap.size=w.heap.size+1+1 by simp)
 clear h hfit hbig hb2 htx;obtain⟨ck,hck⟩:∃ck,ck=A2i f:=⟨_,rfl⟩;rw[←hck]at HRT;have HCK:=Lib.hid hck;clear hck;go_enter Tryz.func11,Tryz.ntmps11
 go_upto_region 1 with fail
 generalize(w.alloc (.cells #[.slice f.pa f.pn f.pc,.int .i64 f.th,.int .i64 f.su,.slice f.fa f.fn f.fc,.slice f.ma f.mn f.mc] 26)).alloc (.cells #[.string ⟨#[]⟩,.string ⟨#[]⟩,.slice none 0 0,.slice none 0 0] A1y)=W0 at*
 have c0:=A0a HX1.out 0 rfl;have c1:=A0a HX1.out 1 rfl;have c2:=A0a HX1.out 2 rfl;have c3:=A0a HX1.out 3 rfl;have c4:=A0a HX1.out 4 rfl;dsimp only[KF.cells]at c0 c1 c2 c3 c4
 go_wp2_with fail
 refine HRT.out.mono ?_;rintro e w1 ⟨rfl,hb1⟩;have HB1:=Lib.hid (HB2.out.trans (hb1.mono HB2.out.size));have HY1:=Lib.hid (A0c HX1.out hb1);have HY2:=Lib.hid (A0c HX2.out hb1)
 have hs1:w.heap.size+1<w1.heap.size:=by have:=hb1.size;have:=HSZ.out;omega
 clear hb1 HRT HB2 HX1 HX2 HSZ c0 c1 c2 c3 c4
 cases ck
 ·have HZW:=Lib.hid (HY2.out);have HBW:=Lib.hid (HB1.out)
  go_upto_region 2 with fail
  refine wp_region_lit ?_;refine wpList_step fun K hK=> ?_
  rw[if_pos (by rfl)];go_step;refine hK _ _ ?_;clear hK K;refine wpList_store_row rfl _ _ _ rfl _ (UU.cells u0).toArray rfl rfl _ _ HZW.out A3e rfl (B7s _) ?_
  go_wp2_with fail
  refine bodyPost_ret (A0d rfl _ _ (w.heap.size+1) A1y (UU.cells u0).toArray (0,0) _ rfl (setRow_heap _ _ _ _ _ _ HZW.out) Tryz.underlying32 rfl A3e) rfl ?_
  exact⟨u0,false,rfl,(by unfold B1c;rw[←HCK.out];rfl),(fun h=>absurd h (by decide)),fun _=>rfl,A1w HBW.out (by omega) _⟩
 have HST:=Lib.hid (D3u (B3n HCK.out.symm).1);have HFO:=Lib.hid (B3n HCK.out.symm).2
 go_upto_region 4 with fail
 have hal:=A0e w1 (.cells #[.string ⟨#[]⟩,.string ⟨#[]⟩,.slice none 0 0,.slice none 0 0] A1y);have HB3:=Lib.hid (HB1.out.trans (hal.mono HB1.out.size));have HF3:=Lib.hid (A0c HY1.out hal)
 have HZ3:=Lib.hid (A0c HY2.out hal)
 have HO3:=Lib.hid (show(w1.alloc (.cells #[.string ⟨#[]⟩,.string ⟨#[]⟩,.slice none 0 0,.slice none 0 0] A1y)).heap[w1.heap.size]? =some (.cells u0.cells.toArray A1y (0,0))from heap_alloc_last w1 (.cells #[.string ⟨#[]⟩,.string ⟨#[]⟩,.slice none 0 0,.slice none 0 0] A1y))
 clear hal HB1 HY1 HY2;generalize w1.alloc (.cells #[.string ⟨#[]⟩,.string ⟨#[]⟩,.slice none 0 0,.slice none 0 0] A1y)=w2 at*;generalize w1.heap.size=go at*
 obtain⟨NM,hNM⟩:∃NM,NM=(A0s f.pool f.th).1:=⟨_,rfl⟩;have HNM:=Lib.hid hNM;have HNL:=Lib.hid (show NM.length≤65536 by rw[hNM];exact A2t HTX.out _)
 have HCL:=Lib.hid (A4p w2 f.pa f.pn f.pc f.pool f.th (HR.out.below HB3.out).pool HNN.out);unfold A4f at HCL;rw[←hNM]at HCL;clear hNM;generalize(A0s f.pool f.th).2=cb at*
 have c0:=A0a HF3.out 0 rfl;have c1:=A0a HF3.out 1 rfl;have c2:=A0a HF3.out 2 rfl;dsimp only[KF.cells]at c0 c1 c2
 go_wp2_with fail
 refine HCL.out.mono ?_;rintro e w3 ⟨rfl,hw3⟩;obtain rfl:w2=w3:=hw3;have fo:=A1a HO3.out 0;have oo:=A0a HO3.out 0 rfl;have lto:=A0u HO3.out;dsimp only[UU.cells,u0]at oo
 go_upto_region 5 with fail
 have HBA:=Lib.hid (HB3.out.setCell (p:=⟨go,0,none⟩) (show w.heap.size≤go by omega) (.string ⟨NM.toArray⟩));have HFA:=Lib.hid (A1c HF3.out (show w.heap.size≠go by omega) 0 (.string ⟨NM.toArray⟩))
 have HZA:=Lib.hid (A1c HZ3.out (show w.heap.size+1≠go by omega) 0 (.string ⟨NM.toArray⟩))
 have HOA:=Lib.hid (show(w2.setCell ⟨go,0,none⟩ (.string ⟨NM.toArray⟩)).heap[go]? =some (.cells (UU.cells ⟨NM,[],none,0,0,[],none,0,0,[]⟩).toArray A1y (0,0))from A1d HO3.out 0 (.string ⟨NM.toArray⟩))
 clear HCL HB3 HF3 HZ3 HO3 fo oo lto c0 c1 c2;generalize w2.setCell ⟨go,0,none⟩ (.string ⟨NM.toArray⟩)=w4 at*;have c0:=A0a HFA.out 0 rfl;have c2:=A0a HFA.out 2 rfl;dsimp only[KF.cells]at c0 c2
 obtain⟨SU,hSU⟩:∃SU,SU=if f.su=0 then []else(A0s f.pool f.su).1:=⟨_,rfl⟩
 have HSU:=Lib.hid hSU;have HLC:=Lib.hid (D4d HCK.out.symm HNM.out.symm hSU)
 have HSL:=Lib.hid (show SU.length≤65536 by
  rw[hSU];split
  ·simp
  ·exact A2t HTX.out _)
 clear hSU
 go_upto_if 27 with fail
 go_cut [] (fun wx=>Hid (Below w.heap.size w wx)∧Hid (wx.heap[w.heap.size]? =some (.cells f.cells.toArray 26 (0,0)))∧Hid (wx.heap[w.heap.size+1]? =some (.cells u0.cells.toArray A1y (0,0)))∧Hid (wx.heap[go]? =some (.cells (UU.cells ⟨NM,SU,none,0,0,[],none,0,0,[]⟩).toArray A1y (0,0))))
 case first=>
  by_cases h0:f.su=0
  ·have e0:(f.su !=0)=false:=by simp[h0]
   have HVE:=Lib.hid (HSU.out.trans (if_pos h0));clear h0
   go_wp2_with fail
   go_meet;exact⟨HBA,HFA,HZA,Lib.hid (by rw[HVE.out];exact HOA.out)⟩
  ·have e0:(f.su !=0)=true:=by simp[h0]
   have HVE:=Lib.hid (HSU.out.trans (if_neg h0));clear h0;have HCL:=Lib.hid (A4p w4 f.pa f.pn f.pc f.pool f.su (HR.out.below HBA.out).pool HNN.out);unfold A4f at HCL;rw[←HVE.out]at HCL
   generalize(A0s f.pool f.su).2=cb2 at*
   go_wp2_with fail
   refine HCL.out.mono ?_;rintro e w8 ⟨rfl,hw8⟩;obtain rfl:w4=w8:=hw8;have f3:=A1a HOA.out 1;have z3:=A0a HOA.out 1 rfl;have lz:=A0u HOA.out;dsimp only[UU.cells]at z3
   go_wp2_with fail
   go_meet
   exact⟨Lib.hid (HBA.out.setCell (p:=⟨go,1,none⟩) (show w.heap.size≤go by omega) _),Lib.hid (A1c HFA.out (by omega) 1 _),Lib.hid (A1c HZA.out (by omega) 1 _),Lib.hid (A1d HOA.out 1 _)⟩
 case rest=>
  clear HBA HFA HZA HOA c0 c2;obtain⟨HBA,HFA,HZA,HOA⟩:=hcut;have c0:=A0a HFA.out 0 rfl;have c2:=A0a HFA.out 2 rfl;have o0:=A0a HOA.out 0 rfl;have o1:=A0a HOA.out 1 rfl
  dsimp only[KF.cells,UU.cells]at c0 c2 o0 o1;have HI1:=Lib.hid (A2u wc NM (by have:=HNL.out;omega));have HI2:=Lib.hid (A2u wc SU (by have:=HSL.out;omega))
  generalize classB NM=b1 at*;generalize classB SU=b2 at*;obtain⟨G,hG⟩:∃G,G=(b1&&(decide (f.su=0)||b2)):=⟨_,rfl⟩;have HG:=Lib.hid hG
  have HLD:=Lib.hid (show B1c f=(G&&(f.fields.all (A8e f.pool)&&f.methods.all (B0j f.pool))) by rw[HLC.out,hG,Bool.and_assoc]);clear hG HLC
  go_upto_region 7 with fail
  go_cut [51] (fun s51 wx=>s51= .bool (!G)∧Hid (Below w.heap.size w wx)∧Hid (wx.heap[w.heap.size]? =some (.cells f.cells.toArray 26 (0,0)))∧Hid (wx.heap[w.heap.size+1]? =some (.cells u0.cells.toArray A1y (0,0)))∧Hid (wx.heap[go]? =some (.cells (UU.cells ⟨NM,SU,none,0,0,[],none,0,0,[]⟩).toArray A1y (0,0))))
  case first=>
   go_wp2_with fail
   refine HI1.out.mono ?_;rintro e w9 ⟨rfl,hw9⟩;obtain rfl:wc=w9:=Eq.symm hw9
   cases b1
   ·have HV:=Lib.hid (show G=false from HG.out)
    go_wp2_with fail
    go_meet;exact⟨by rw[HV.out];rfl,HBA,HFA,HZA,HOA⟩
   ·by_cases h0:f.su=0
    ·have e0:(f.su !=0)=false:=by simp[h0]
     have HV:=Lib.hid (show G=true by rw[HG.out,decide_eq_true h0];rfl);clear h0
     go_wp2_with fail
     go_meet;exact⟨by rw[HV.out];rfl,HBA,HFA,HZA,HOA⟩
    ·have e0:(f.su !=0)=true:=by simp[h0]
     have HV:=Lib.hid (show G=b2 by rw[HG.out,decide_eq_false h0];rfl);clear h0
     go_wp2_with fail
     refine HI2.out.mono ?_;rintro e w9 ⟨rfl,hw9⟩;obtain rfl:wc=w9:=Eq.symm hw9
     go_wp2_with fail
     go_meet;exact⟨by rw[HV.out],HBA,HFA,HZA,HOA⟩
  case rest=>
   clear HBA HFA HZA HOA HI1 HI2 HG c0 c2 o0 o1;obtain⟨rfl,HBA,HFA,HZA,HOA⟩:=hcut
   cases G
   ·have HZW:=Lib.hid (HZA.out);have HBW:=Lib.hid (HBA.out)
    go_upto_region 8 with fail
    refine wp_region_lit ?_;refine wpList_step fun K hK=> ?_
    rw[if_pos (by rfl)];go_step;refine hK _ _ ?_;clear hK K;refine wpList_store_row rfl _ _ _ rfl _ (UU.cells u0).toArray rfl rfl _ _ HZW.out A3e rfl (B7s _) ?_
    go_wp2_with fail
    refine bodyPost_ret (A0d rfl _ _ (w.heap.size+1) A1y (UU.cells u0).toArray (0,0) _ rfl (setRow_heap _ _ _ _ _ _ HZW.out) Tryz.underlying32 rfl A3e) rfl ?_
    exact⟨u0,false,rfl,(by rw[HLD.out];rfl),(fun h=>absurd h (by decide)),fun _=>rfl,A1w HBW.out (by omega) _⟩
   have HC:=Lib.hid (show RlC w wc go f from⟨HFA.out,HZA.out,HBA.out,A0u HOA.out,hs1⟩)
   have HJ:=Lib.hid (show RlJ wc wc go ⟨NM,SU,none,0,0,[],none,0,0,[]⟩from⟨A0j.refl _ _,HOA.out,⟨World.ownsRow_nil _ _ _ _,World.ownsRow_nil _ _ _ _,fun p hp=>by cases hp⟩⟩)
   replace HLD:=Lib.hid (show B1c f=(f.fields.all (A8e f.pool)&&f.methods.all (B0j f.pool)) by rw[HLD.out];rfl);clear HBA HFA HZA HOA;have HWE:∃W,W=wc:=⟨_,rfl⟩;obtain⟨W,hW⟩:=HWE
   rw[←hW]at HC HJ⊢;clear hW wc;have hgw:w.heap.size+1<go:=hs1;have hgs:go<W.heap.size:=HC.out.gs
   have hfn:f.fn≤64∧f.mn≤64:=by
    obtain⟨q1,q2,-⟩:=A8w HCK.out.symm HR.out;exact⟨q1,q2⟩
   have HMO:=Lib.hid (A8w HCK.out.symm HR.out).2.2;have c3:=A0a (HC.out.fw HJ.out.k) 3 rfl;dsimp only[KF.cells]at c3
   go_wp2_with fail
   go_loopg [56] f.fn (fun gn i wr=>∃(j:Nat) (x:UU),j≤f.fn∧gn=f.fn-j∧i= .int .i64 j∧Hid ((f.fields.take j).all (A8e f.pool)=true)∧Hid (x.p=⟨NM,SU,none,0,0,(f.fields.take j).map (A7n f.pool),none,0,0,[]⟩)∧Hid (RlJ W wr go x))
   case atStart=>exact⟨0,_,by omega,by omega,by go_num,Lib.hid (by simp),Lib.hid rfl,HJ⟩
   case round=>
    clear HJ c3;obtain⟨j,x,hj,rfl,rfl,HE,HX,HJ⟩:=hrel;by_cases hlt:j<f.fn
    ·have hlj:x.fields.length=j:=by
      have h1:=congrArg (fun u=>u.fields.length) HX.out;have h2:=HR.out.fields.1;simp only[UU.p,List.length_map,List.length_take]at h1;omega
     have hcn:x.fn=j:=by
      obtain⟨a9,c9,e9,h9,_⟩:=Ss.ofOwn UF.cells_length (by decide) HJ.out.w.fields
      cases e9
      rw[←hlj];exact h9.1.symm
     have HCN:=Lib.hid hcn;have HS:=Lib.hid (HR.out.below (HC.out.bw HJ.out.k)).fields;have hj1:(j:Int)<f.fn:=by omega
     obtain⟨hfn1,hfn2⟩:=hfn;obtain⟨bq,ofq,d,hbq,hbl,hs,q⟩:=HS.out.getC j hlt;have q0:=q 0 (by omega);have q1:=q 1 (by omega);have q2:=q 2 (by omega);rw[Nat.add_zero]at q0
     simp only[KD.cells,List.getElem?_cons_zero,List.getElem?_cons_succ]at q0 q1 q2
     have HTK:=Lib.hid (show f.fields.take (j+1)=f.fields.take j++[d] by
      have hjl:=(List.getElem?_eq_some_iff.1 hs).1;rw[List.take_succ_eq_append_getElem hjl,(List.getElem?_eq_some_iff.1 hs).2])
     have HDM:=Lib.hid (List.mem_of_getElem? hs);have hmo:=HFO.out d HDM.out;unfold A3d at hmo;simp only[Bool.and_eq_true]at hmo;obtain⟨⟨-,t1⟩,t2⟩:=hmo;obtain⟨n0,n1,n2⟩:=A5e t1
     obtain⟨d0,d1,d2⟩:=A5e t2;obtain⟨sb,hsb⟩:∃sb,sb=decide (d.fl=8):=⟨_,rfl⟩;have esb:(d.fl==8)=sb:=by rw[hsb,Bool.eq_iff_iff,beq_iff_eq,decide_eq_true_iff]
     obtain⟨NA,hNA⟩:∃NA,NA=(kAt f.pool d.nm).s:=⟨_,rfl⟩;obtain⟨DA,hDA⟩:∃DA,DA=(kAt f.pool d.ds).s:=⟨_,rfl⟩
     have HN1:=Lib.hid (show A1p f.pool d.nm=NA by unfold A1p;rw[t1,if_pos rfl,hNA]);have HN2:=Lib.hid (show A1p f.pool d.ds=DA by unfold A1p;rw[t2,if_pos rfl,hDA])
     have HNL2:=Lib.hid (show NA.length≤65536 by rw[hNA];exact HTX.out _);have HDL2:=Lib.hid (show DA.length≤65536 by rw[hDA];exact HTX.out _);have HKP:=Lib.hid HR.out.pool
     have hpl:=HKP.out.1;have hn65:=HNN.out;have hnl:d.nm<f.pn:=by omega
     have hdl:d.ds<f.pn:=by omega
     have hn0:0≤d.nm:=by omega
     have hd0:0≤d.ds:=by omega
     have hn9:d.nm<1048576:=by omega
     have hd9:d.ds<1048576:=by omega
     obtain⟨b,off,hpa,hpb,-,-,-,-,k1⟩:=HKP.out.at d.nm.toNat (by omega);obtain⟨b',off',e1,-,-,-,-,-,k2⟩:=HKP.out.at d.ds.toNat (by omega);rw[hpa]at e1
     cases e1
     have e1:((d.nm.toNat:Nat):Int)=d.nm:=Int.toNat_of_nonneg (by omega);have e2:((d.ds.toNat:Nat):Int)=d.ds:=Int.toNat_of_nonneg (by omega);rw[e1,←hNA]at k1;rw[e2,←hDA]at k2
     have HKA:=Lib.hid k1;have HKB:=Lib.hid k2;have HSB:=Lib.hid hsb;have HPA:=Lib.hid hpa;clear hs q hlt HS hlj hcn t1 t2 n0 n1 n2 d0 d1 d2 e1 e2 k1 k2 hNA hDA hsb hpl HKP hpa hn65
     go_upto_region 12 with fail
     have hb6:=A0e wr (.cells #[.int .i64 d.fl,.int .i64 d.nm,.int .i64 d.ds] 75);have HJ6:=Lib.hid ((HJ.out.below hb6).below ((Below.refl _ _).drew))
     have HGD:=Lib.hid (show(wr.alloc (.cells #[.int .i64 d.fl,.int .i64 d.nm,.int .i64 d.ds] 75)).drew.heap[wr.heap.size]? =some (.cells d.cells.toArray 75 (0,0))from heap_alloc_last wr (.cells #[.int .i64 d.fl,.int .i64 d.nm,.int .i64 d.ds] 75))
     clear hb6 HJ q0 q1 q2 hbq hbl;generalize wr.heap.size=gd at*
     go_cut [7] (fun s7 wx=>∃gy:Nat,s7= .pointer (some ⟨gy,0,none⟩)∧Hid (RlJ W wx go x)∧Hid (wx.heap[gy]? =some (.cells (UF.cells ⟨sb,NA,DA⟩).toArray 52 (0,0))))
     case first=>
      refine A0g (QL w.heap.size gd b (off+d.nm.toNat*5+4) (off+d.ds.toNat*5+4) f d NA DA) (.of [(0,true),(1,true),(2,true),(3,true),(4,true),(5,true),(6,true),(7,true),(8,true),(9,true),(10,true),(11,true),(12,true),(13,true),(14,true),(15,true),(16,true),(17,true),(18,false),(19,false)] (.stir [])) (by kernel_rfl) (by kernel_rfl) (fun c a d v w h=>by cases d<;>exact h) ?_
      generalize(wr.alloc (.cells #[.int .i64 d.fl,.int .i64 d.nm,.int .i64 d.ds] 75)).drew=V0 at*;have hbw:=HC.out.bw HJ6.out.k
      have hSw:QL w.heap.size gd b (off+d.nm.toNat*5+4) (off+d.ds.toNat*5+4) f d NA DA V0:=⟨⟨HC.out.fw HJ6.out.k,HGD.out⟩,A0f hbw HKA.out,A0f hbw HKB.out⟩
      have hlts:w.heap.size<V0.heap.size∧gd<V0.heap.size∧b<V0.heap.size:=⟨A0u (HC.out.fw HJ6.out.k),A0u HGD.out,by have:=hbw.size;omega⟩;have HLTS:=Lib.hid hlts
      clear hlts hbw;have l0:=fun z (h:QL w.heap.size gd b (off+d.nm.toNat*5+4) (off+d.ds.toNat*5+4) f d NA DA z)=>A0a h.1.2 0 rfl
      have l1:=fun z (h:QL w.heap.size gd b (off+d.nm.toNat*5+4) (off+d.ds.toNat*5+4) f d NA DA z)=>A0a h.1.2 1 rfl
      have l2:=fun z (h:QL w.heap.size gd b (off+d.nm.toNat*5+4) (off+d.ds.toNat*5+4) f d NA DA z)=>A0a h.1.2 2 rfl
      have l3:=fun z (h:QL w.heap.size gd b (off+d.nm.toNat*5+4) (off+d.ds.toNat*5+4) f d NA DA z)=>A0a h.1.1 0 rfl
      have l4:=fun z (h:QL w.heap.size gd b (off+d.nm.toNat*5+4) (off+d.ds.toNat*5+4) f d NA DA z)=>h.2.1
      have l5:=fun z (h:QL w.heap.size gd b (off+d.nm.toNat*5+4) (off+d.ds.toNat*5+4) f d NA DA z)=>h.2.2
      dsimp only[KD.cells,KF.cells]at l0 l1 l2 l3;rw[HPA.out]at l3
      iterate 18
       refine A0b fun K hK=>tkF ?_
       go_simp
       try go_bits
       refine hK _ _ ?_;clear hK K
      refine A0b fun K hK=>alF ?_
      go_step;have hal:=A0e V0 (.cells #[.bool false,.string ⟨#[]⟩,.string ⟨#[]⟩] 52);have HG:=Lib.hid (heap_alloc_last V0 (.cells #[.bool false,.string ⟨#[]⟩,.string ⟨#[]⟩] 52))
      have hSn:QL w.heap.size gd b (off+d.nm.toNat*5+4) (off+d.ds.toNat*5+4) f d NA DA (V0.alloc (.cells #[.bool false,.string ⟨#[]⟩,.string ⟨#[]⟩] 52)):=hSw.below hal
      have HJ7:=Lib.hid (HJ6.out.below hal);have HBA:=Lib.hid hal;refine⟨hSn,hK _ _ ?_⟩;clear hK K hSw hSn hal
      generalize V0.alloc (.cells #[.bool false,.string ⟨#[]⟩,.string ⟨#[]⟩] 52)=V1 at*;have hgy:V0.heap.size≤V0.heap.size:=Nat.le_refl _;refine A0b fun K hK=>alF ?_
      refine wp_store_row 52 _ _ rfl V0.heap.size (UF.cells ⟨sb,NA,DA⟩).toArray rfl rfl 52 (UF.cells ⟨false,[],[]⟩).toArray HG.out B2g rfl (E0t _) ?_
      have hbz:Below V0.heap.size V0 (V1.setRow V0.heap.size (UF.cells ⟨sb,NA,DA⟩).toArray):=A1w HBA.out hgy _;have HJ8:=Lib.hid (HJ6.out.below hbz)
      have hSn:QL w.heap.size gd b (off+d.nm.toNat*5+4) (off+d.ds.toNat*5+4) f d NA DA (V1.setRow V0.heap.size (UF.cells ⟨sb,NA,DA⟩).toArray):=QL.row ⟨⟨HC.out.fw HJ6.out.k,HGD.out⟩,A0f (HC.out.bw HJ6.out.k) HKA.out,A0f (HC.out.bw HJ6.out.k) HKB.out⟩ hbz HLTS.out
      have HZZ:=Lib.hid (setRow_heap V1 V0.heap.size _ (UF.cells ⟨sb,NA,DA⟩).toArray _ _ HG.out);refine⟨hSn,hK _ _ ?_⟩;clear hK K HG hbz HBA HJ7
      generalize V1.setRow V0.heap.size (UF.cells ⟨sb,NA,DA⟩).toArray=VZ at*;refine A0m (fun y=>y=VZ) (fun y hy=>hy▸hSn) rfl ?_;refine A0p (fun y hy=> ?_)
      obtain rfl:VZ=y:=Eq.symm hy;clear hSn
      go_wp2_with fail
      go_meet;exact⟨_,rfl,HJ8,HZZ⟩
     case rest=>
      clear HJ6 HGD HKA HKB esb hnl hdl hn0 hd0 hn9 hd9;obtain⟨gy,rfl,HJ8,HZ8⟩:=hcut;have HFV:=Lib.hid (show A7n f.pool d=⟨sb,NA,DA⟩ by unfold A7n;rw[HN1.out,HN2.out,HSB.out])
      have HFC:=Lib.hid (show A8e f.pool d=(A7v NA&&typeB DA) by unfold A8e;rw[HN1.out,HN2.out]);have HI1:=Lib.hid (A8p wc NA HNL2.out)
      have HI2:=Lib.hid (A7a wc DA HDL2.out)
      have HBF:=Lib.hid (show ∀h:A8e f.pool d=false,f.fields.all (A8e f.pool)=false from fun h=>by
       rw[List.all_eq_false];exact⟨d,HDM.out,by rw[h];decide⟩)
      generalize A7v NA=b1 at*;generalize typeB DA=b2 at*;have z0:=A0a HZ8.out 0 rfl;have z1:=A0a HZ8.out 1 rfl;have z2:=A0a HZ8.out 2 rfl
      dsimp only[UF.cells]at z0 z1 z2
      go_wp2_with fail
      refine HI1.out.mono ?_;rintro e w9 ⟨rfl,hw9⟩;obtain rfl:wc=w9:=Eq.symm hw9
      cases b1
      ·have HFF:=Lib.hid (HBF.out (by rw[HFC.out];rfl));have HZW:=Lib.hid (HC.out.zw HJ8.out.k);have HBW:=Lib.hid (HC.out.bw HJ8.out.k)
       go_upto_region 14 with fail
       refine wp_region_lit ?_;refine wpList_step fun K hK=> ?_
       rw[if_pos (by rfl)];go_step;refine hK _ _ ?_;clear hK K;refine wpList_store_row rfl _ _ _ rfl _ (UU.cells u0).toArray rfl rfl _ _ HZW.out A3e rfl (B7s _) ?_
       go_wp2_with fail
       refine bodyPost_ret (A0d rfl _ _ (w.heap.size+1) A1y (UU.cells u0).toArray (0,0) _ rfl (setRow_heap _ _ _ _ _ _ HZW.out) Tryz.underlying32 rfl A3e) rfl ?_
       exact⟨u0,false,rfl,(by rw[HLD.out,HFF.out];rfl),(fun h=>absurd h (by decide)),fun _=>rfl,A1w HBW.out (by omega) _⟩
      go_wp2_with fail
      refine HI2.out.mono ?_;rintro e w9 ⟨rfl,hw9⟩;obtain rfl:wc=w9:=Eq.symm hw9
      cases b2
      ·have HFF:=Lib.hid (HBF.out (by rw[HFC.out];rfl));have HZW:=Lib.hid (HC.out.zw HJ8.out.k);have HBW:=Lib.hid (HC.out.bw HJ8.out.k)
       go_upto_region 14 with fail
       refine wp_region_lit ?_;refine wpList_step fun K hK=> ?_
       rw[if_pos (by rfl)];go_step;refine hK _ _ ?_;clear hK K;refine wpList_store_row rfl _ _ _ rfl _ (UU.cells u0).toArray rfl rfl _ _ HZW.out A3e rfl (B7s _) ?_
       go_wp2_with fail
       refine bodyPost_ret (A0d rfl _ _ (w.heap.size+1) A1y (UU.cells u0).toArray (0,0) _ rfl (setRow_heap _ _ _ _ _ _ HZW.out) Tryz.underlying32 rfl A3e) rfl ?_
       exact⟨u0,false,rfl,(by rw[HLD.out,HFF.out];rfl),(fun h=>absurd h (by decide)),fun _=>rfl,A1w HBW.out (by omega) _⟩
      have o2:=A0a HJ8.out.o 2 rfl;dsimp only[UU.cells]at o2;have hcl:x.fn≤65536:=by rw[HCN.out];omega
      clear HBF HI1 HI2
      go_wp2_with (at_builtin;refine A0r D1h rfl _ _ rfl W.heap.size _ x.fn _ rfl HJ8.out.w.fields _ 1 _ _ rfl rfl rfl rfl (by omega) (by unfold maxLen;omega) HJ8.out.k.size ?_;intro v9 w9 hown9 hg9 hb9;have hk9:=A3a.app HJ8.out.w.fields hg9;have hown8:w9.ownsRow W.heap.size 52 3 v9 (x.fn+1) ((x.fields++[(⟨sb,NA,DA⟩:UF)]).flatMap UF.cells):=(by rw[List.flatMap_append];exact hown9);obtain⟨a9,c9,rfl,-,-⟩:=Ss.ofOwn UF.cells_length (by decide) hown8;have hB9:A0j (fun k=>W.heap.size≤k) wc w9:=A0j.ofB hb9 (Nat.le_trans (by simp) hg9.size);have HJ9:=Lib.hid (HJ8.out.app hB9 hk9 (HJ8.out.w.fields1 hk9 hown8) HC.out.gs);have fo:=A1a HJ9.out.2.1 2;have lto:=A0u HJ9.out.2.1;have co:=A0a HJ9.out.2.1 2 rfl;dsimp only[UU.cells]at co;clear hown9 hown8 hg9 hb9 hk9 hB9)
      have HJ10:=HJ9.out.2.2 2 (.slice a9 (x.fn+1) c9) rfl;have HX10:=Lib.hid (UU.p_fields1 HX.out a9 (x.fn+1) c9 (⟨sb,NA,DA⟩:UF));have HJ11:=Lib.hid HJ10
      have HX11:=Lib.hid (show UU.p {x with fa:=a9,fn:=x.fn+1,fc:=c9,fields:=x.fields++[(⟨sb,NA,DA⟩:UF)]}=⟨NM,SU,none,0,0,(f.fields.take (j+1)).map (A7n f.pool),none,0,0,[]⟩ by
       rw[HX10.out,HTK.out,List.map_append,List.map_singleton,HFV.out])
      have HE11:=Lib.hid (show(f.fields.take (j+1)).all (A8e f.pool)=true by
       rw[HTK.out,List.all_append,HE.out];simp[HFC.out])
      clear HJ10 HX10 HJ9 HX HE HJ8 HZ8 fo lto co z0 z1 z2 o2;go_roundg (f.fn-(j+1))
      case measure=>omega
      case rel=>exact⟨j+1,_,by omega,rfl,by go_num,HE11,HX11,HJ11⟩
    ·have hje:j=f.fn:=by omega
     have hfull:f.fields.take j=f.fields:=List.take_of_length_le (by rw[HR.out.fields.1];omega);rw[hfull]at HE HX;have hnl:¬((j:Int)<f.fn):=by omega
     clear hje;have c4:=A0a (HC.out.fw HJ.out.k) 4 rfl;dsimp only[KF.cells]at c4
     go_wp2_with fail
     go_loopg [99] f.mn (fun gn i wr2=>∃(jm:Nat) (x5:UU),jm≤f.mn∧gn=f.mn-jm∧i= .int .i64 jm∧Hid ((f.methods.take jm).all (B0j f.pool)=true)∧Hid (x5.p=⟨NM,SU,none,0,0,f.fields.map (A7n f.pool),none,0,0,(f.methods.take jm).map (B1j f.pool)⟩)∧Hid (RlJ W wr2 go x5))
     case atStart=>exact⟨0,x,by omega,by omega,by go_num,Lib.hid (by simp),Lib.hid (by rw[HX.out];rfl),HJ⟩
     case round=>
      clear HJ HX c4;obtain⟨jm,x5,hj5,rfl,rfl,HE5,HX5,HJ5⟩:=hrel;by_cases hlt:jm<f.mn
      ·have hlj:x5.methods.length=jm:=by
        have h1:=congrArg (fun u=>u.methods.length) HX5.out;have h2:=HR.out.methods.1;simp only[UU.p,List.length_map,List.length_take]at h1;omega
       have hcn:x5.mn=jm:=by
        obtain⟨a9,c9,e9,h9,_⟩:=Ss.ofOwn UM.cells_length (by decide) HJ5.out.w.methods
        cases e9
        rw[←hlj];exact h9.1.symm
       have HCN:=Lib.hid hcn;have HS:=Lib.hid (HR.out.below (HC.out.bw HJ5.out.k)).methods;have hj1:(jm:Int)<f.mn:=by omega
       obtain⟨hfn1,hfn2⟩:=hfn;obtain⟨bq,ofq,m,hbq,hbl,hs,q⟩:=HS.out.getC jm hlt;have q0:=q 0 (by omega);have q1:=q 1 (by omega);have q2:=q 2 (by omega)
       have q3:=q 3 (by omega);have q4:=q 4 (by omega);have q5:=q 5 (by omega);have q6:=q 6 (by omega);have q7:=q 7 (by omega);rw[Nat.add_zero]at q0
       simp only[KM.cells,List.getElem?_cons_zero,List.getElem?_cons_succ]at q0 q1 q2 q3 q4 q5 q6 q7
       have HTK:=Lib.hid (show f.methods.take (jm+1)=f.methods.take jm++[m] by
        have hjl:=(List.getElem?_eq_some_iff.1 hs).1;rw[List.take_succ_eq_append_getElem hjl,(List.getElem?_eq_some_iff.1 hs).2])
       have HMM:=Lib.hid (List.mem_of_getElem? hs);clear hs q hlt HS hlj hcn
       go_upto_region 20 with fail
       have hb6:=A0e wr (.cells #[.int .i64 m.fl,.int .i64 m.nm,.int .i64 m.ds,.int .i64 m.st,.int .i64 m.lo,.slice m.ca m.cn m.cc,.slice m.ta m.tn m.tc,.slice m.ma m.mn m.mc] 65)
       have HJ6:=Lib.hid (HJ5.out.below hb6)
       have HGM:=Lib.hid (show(wr.alloc (.cells #[.int .i64 m.fl,.int .i64 m.nm,.int .i64 m.ds,.int .i64 m.st,.int .i64 m.lo,.slice m.ca m.cn m.cc,.slice m.ta m.tn m.tc,.slice m.ma m.mn m.mc] 65)).heap[wr.heap.size]? =some (.cells m.cells.toArray 65 (0,0))from heap_alloc_last wr (.cells #[.int .i64 m.fl,.int .i64 m.nm,.int .i64 m.ds,.int .i64 m.st,.int .i64 m.lo,.slice m.ca m.cn m.cc,.slice m.ta m.tn m.tc,.slice m.ma m.mn m.mc] 65))
       clear hb6 HJ5 q0 q1 q2 q3 q4 q5 q6 q7 hbq hbl
       generalize wr.alloc (.cells #[.int .i64 m.fl,.int .i64 m.nm,.int .i64 m.ds,.int .i64 m.st,.int .i64 m.lo,.slice m.ca m.cn m.cc,.slice m.ta m.tn m.tc,.slice m.ma m.mn m.mc] 65)=w6 at*
       generalize wr.heap.size=gm at*;have p0:=A0a HGM.out 0 rfl;have p1:=A0a HGM.out 1 rfl;have p2:=A0a HGM.out 2 rfl;have p3:=A0a HGM.out 3 rfl
       have p4:=A0a HGM.out 4 rfl;have p5:=A0a HGM.out 5 rfl;have p6:=A0a HGM.out 6 rfl;have p7:=A0a HGM.out 7 rfl;have c0:=A0a (HC.out.fw HJ6.out.k) 0 rfl
       dsimp only[KM.cells,KF.cells]at p0 p1 p2 p3 p4 p5 p6 p7 c0;have HR6:=Lib.hid (HR.out.below (HC.out.bw HJ6.out.k))
       have HMT:=Lib.hid (C9n w6 f.pa f.pn f.pc f.pool m HR6.out.pool HNN.out HTX.out HST.out (HR6.out.each m HMM.out) (HMO.out m HMM.out))
       have hg6:W.heap.size≤w6.heap.size:=HJ6.out.k.size
       go_wp2_with fail
       refine HMT.out.mono ?_;rintro e w7 ⟨y,ok,rfl,hok,hy,hb7⟩;obtain⟨xst,xnm,xds,xsk,xlo,xca,xcn,xcc,xcode,xta,xtn,xtc,xtr,xma,xmn,xmc,xmp⟩:=y
       have HJ7:=Lib.hid (HJ6.out.below hb7);have HK7:=Lib.hid hok;have HY7:=Lib.hid hy;clear hok hy hb7 HJ6 HMT HGM HR6 p0 p1 p2 p3 p4 p5 p6 p7 c0;dsimp only[UM.cells]
       go_upto_region 21 with fail
       have hal:=A0e w7 (.cells #[.bool xst,.string ⟨xnm.toArray⟩,.string ⟨xds.toArray⟩,.int .i64 xsk,.int .i64 xlo,.slice xca xcn xcc,.slice xta xtn xtc,.slice xma xmn xmc] A0v)
       have HJ8:=Lib.hid (HJ7.out.below hal)
       have HGX:=Lib.hid (heap_alloc_last w7 (.cells #[.bool xst,.string ⟨xnm.toArray⟩,.string ⟨xds.toArray⟩,.int .i64 xsk,.int .i64 xlo,.slice xca xcn xcc,.slice xta xtn xtc,.slice xma xmn xmc] A0v))
       have HY8:=Lib.hid (fun h=>show UM.p ⟨xst,xnm,xds,xsk,xlo,xca,xcn,xcc,xcode,xta,xtn,xtc,xtr,xma,xmn,xmc,xmp⟩=B1j f.pool m∧UM.Own (⟨xst,xnm,xds,xsk,xlo,xca,xcn,xcc,xcode,xta,xtn,xtc,xtr,xma,xmn,xmc,xmp⟩:UM) (w7.alloc (.cells #[.bool xst,.string ⟨xnm.toArray⟩,.string ⟨xds.toArray⟩,.int .i64 xsk,.int .i64 xlo,.slice xca xcn xcc,.slice xta xtn xtc,.slice xma xmn xmc] A0v)) W.heap.size from⟨(HY7.out h).1,((HY7.out h).2.keepP (A0j.of (p:=fun _=>False) hal) (fun _ hx=>hx.elim)).mono hg6⟩)
       clear hal HJ7 HY7
       generalize w7.alloc (.cells #[.bool xst,.string ⟨xnm.toArray⟩,.string ⟨xds.toArray⟩,.int .i64 xsk,.int .i64 xlo,.slice xca xcn xcc,.slice xta xtn xtc,.slice xma xmn xmc] A0v)=wc at*
       generalize w7.heap.size=gx at*
       cases ok
       ·have HFF:=Lib.hid (show f.methods.all (B0j f.pool)=false by
         rw[List.all_eq_false];exact⟨m,HMM.out,by rw[←HK7.out];decide⟩)
        have HZW:=Lib.hid (HC.out.zw HJ8.out.k);have HBW:=Lib.hid (HC.out.bw HJ8.out.k)
        go_upto_region 22 with fail
        refine wp_region_lit ?_;refine wpList_step fun K hK=> ?_
        rw[if_pos (by rfl)];go_step;refine hK _ _ ?_;clear hK K;refine wpList_store_row rfl _ _ _ rfl _ (UU.cells u0).toArray rfl rfl _ _ HZW.out A3e rfl (B7s _) ?_
        go_wp2_with fail
        refine bodyPost_ret (A0d rfl _ _ (w.heap.size+1) A1y (UU.cells u0).toArray (0,0) _ rfl (setRow_heap _ _ _ _ _ _ HZW.out) Tryz.underlying32 rfl A3e) rfl ?_
        exact⟨u0,false,rfl,(by rw[HLD.out,HFF.out];simp),(fun h=>absurd h (by decide)),fun _=>rfl,A1w HBW.out (by omega) _⟩
       have HYA:=Lib.hid (HY8.out (by trivial));clear HY8;have z0:=A0a HGX.out 0 rfl;have z1:=A0a HGX.out 1 rfl;have z2:=A0a HGX.out 2 rfl;have z3:=A0a HGX.out 3 rfl
       have z4:=A0a HGX.out 4 rfl;have z5:=A0a HGX.out 5 rfl;have z6:=A0a HGX.out 6 rfl;have z7:=A0a HGX.out 7 rfl;have o3:=A0a HJ8.out.o 3 rfl
       dsimp only[UU.cells]at o3;have hcl:x5.mn≤65536:=by rw[HCN.out];omega
       go_wp2_with (at_builtin;refine A0r C9s rfl _ _ rfl W.heap.size _ x5.mn _ rfl HJ8.out.w.methods _ 1 _ _ rfl rfl rfl rfl (by omega) (by unfold maxLen;omega) HJ8.out.k.size ?_;intro v9 w9 hown9 hg9 hb9;have hk9:=A3a.app HJ8.out.w.methods hg9;have hown8:w9.ownsRow W.heap.size A0v 8 v9 (x5.mn+1) ((x5.methods++[(⟨xst,xnm,xds,xsk,xlo,xca,xcn,xcc,xcode,xta,xtn,xtc,xtr,xma,xmn,xmc,xmp⟩:UM)]).flatMap UM.cells):=(by rw[List.flatMap_append];exact hown9);obtain⟨a9,c9,rfl,-,-⟩:=Ss.ofOwn UM.cells_length (by decide) hown8;have hB9:A0j (fun k=>W.heap.size≤k) wc w9:=A0j.ofB hb9 (Nat.le_trans (by simp) hg9.size);have HJ9:=Lib.hid (HJ8.out.app hB9 hk9 (HJ8.out.w.methods1 hk9 hown8 (HYA.out.2.keptT hk9 (by decide) (by decide) (by decide) (by decide))) HC.out.gs);have fo:=A1a HJ9.out.2.1 3;have lto:=A0u HJ9.out.2.1;have co:=A0a HJ9.out.2.1 3 rfl;dsimp only[UU.cells]at co;clear hown9 hown8 hg9 hb9 hk9 hB9)
       have HJ10:=HJ9.out.2.2 3 (.slice a9 (x5.mn+1) c9) rfl
       have HX10:=Lib.hid (UU.p_methods1 HX5.out a9 (x5.mn+1) c9 (⟨xst,xnm,xds,xsk,xlo,xca,xcn,xcc,xcode,xta,xtn,xtc,xtr,xma,xmn,xmc,xmp⟩:UM));have HJ11:=Lib.hid HJ10
       have HX11:=Lib.hid (show UU.p {x5 with ma:=a9,mn:=x5.mn+1,mc:=c9,methods:=x5.methods++[(⟨xst,xnm,xds,xsk,xlo,xca,xcn,xcc,xcode,xta,xtn,xtc,xtr,xma,xmn,xmc,xmp⟩:UM)]}=⟨NM,SU,none,0,0,f.fields.map (A7n f.pool),none,0,0,(f.methods.take (jm+1)).map (B1j f.pool)⟩ by
        rw[HX10.out,HTK.out,List.map_append,List.map_singleton,HYA.out.1])
       have HE11:=Lib.hid (show(f.methods.take (jm+1)).all (B0j f.pool)=true by
        rw[HTK.out,List.all_append,HE5.out];simp[←HK7.out])
       clear HJ10 HX10 HJ9 HX5 HE5 HJ8 HGX HK7 HYA fo lto co z0 z1 z2 z3 z4 z5 z6 z7 o3;go_roundg (f.mn-(jm+1))
       case measure=>omega
       case rel=>exact⟨jm+1,_,by omega,rfl,by go_num,HE11,HX11,HJ11⟩
      ·have hje:jm=f.mn:=by omega
       have hfull:f.methods.take jm=f.methods:=List.take_of_length_le (by rw[HR.out.methods.1];omega);rw[hfull]at HE5 HX5;have hnl2:¬((jm:Int)<f.mn):=by omega
       clear hje;have HLV:=Lib.hid (show B8i f=⟨NM,SU,none,0,0,f.fields.map (A7n f.pool),none,0,0,f.methods.map (B1j f.pool)⟩ by unfold B8i;rw[HNM.out,HSU.out])
       have HZW:=Lib.hid (HC.out.zw HJ5.out.k)
       go_upto_region 25 with fail
       refine wp_region_lit ?_;refine A0h rfl _ _ rfl _ rfl _ _ _ _ HJ5.out.o Tryz.underlying32 rfl A3e ?_
       refine wpList_store_row rfl _ _ _ rfl _ _ rfl rfl _ _ HZW.out A3e rfl (B7s _) ?_
       go_wp2_with fail
       refine bodyPost_ret (A0d rfl _ _ (w.heap.size+1) A1y (UU.cells _).toArray (0,0) _ rfl (setRow_heap _ _ _ _ _ _ HZW.out) Tryz.underlying32 rfl A3e) rfl ?_
       exact⟨_,true,rfl,(by rw[HLD.out,HE.out,HE5.out];rfl),(fun _=>⟨HX5.out.trans HLV.out.symm,(HJ5.out.w.keepP (A0j.setrow (A0j.refl (fun k=>k=w.heap.size+1) _) (.inl rfl) _) (fun y hy=> .inl (by have:=HC.out.gs;have:=HC.out.g1;omega))).mono HC.out.b.size⟩),(fun h=>absurd h (by decide)),A1w (HC.out.bw HJ5.out.k) (by omega) _⟩
theorem D4w{l:List Nat}{x:Nat}(h:x∈l):x≤l.sum:=by
 induction l with
 |nil=>cases h
 |cons y t ih=>
  rw[List.sum_cons]
  rcases List.mem_cons.1 h with rfl|h
  ·omega
  ·have:=ih h;omega
theorem D3z{l:List KP}{p:KP}(h:p∈l):10+p.ln+p.sn≤A7i l:=D4w (List.mem_map.2 ⟨p,h,rfl⟩)
theorem D3r{l:List KM}{m:KM}(h:m∈l):m.cn+10*m.tn+A7i m.maps≤B0s l:=D4w (List.mem_map.2 ⟨m,h,rfl⟩)
theorem C5g(l:List KP):10*l.length≤A7i l:=by
 unfold A7i
 induction l with
 |nil=>simp
 |cons p t ih=>rw[List.map_cons,List.sum_cons,List.length_cons];unfold D7i at ih⊢;omega
theorem E0v.fit{f:KF}{w:World}(h:E0v f)(hr:f.Rd w)(h1:∀d∈f.fields,A4x d.fl)(h2:∀m∈f.methods,A4x m.fl):f.Fit:=by
 obtain⟨a1,a2,a3,a4,a5⟩:=h;refine⟨by omega,fun i hi=> ?_,by omega,by omega,h1,fun m hm=> ?_⟩
 ·have hl:i<f.pool.length:=by rw[hr.pool.1];exact hi
  rw[A8q f.pool i hl];exact Nat.le_trans (a4 _ (List.getElem_mem hl)) (by omega)
 ·have c1:=D3r hm;have c2:=C5g m.maps;have c3:=(hr.each m hm).maps.1;refine⟨h2 m hm,by unfold maxLen;omega,by omega,by omega,fun p hp=> ?_⟩;have c4:=D3z hp
  exact⟨by omega,by omega⟩
theorem D4c{c:List UInt8}(h:classB c=true):c.length≤64:=by
 unfold classB at h;simp only[Bool.and_eq_true,decide_eq_true_eq]at h;exact h.1
theorem B9q{K:List KV}(hx:∀i:Int,(kAt K i).s.length≤65536){s:KS}(ht:B3p s)(h:A5v K s=true):(A1v K s).length≤65536:=by
 obtain⟨tag,sa⟩:=s;unfold B3p at ht;dsimp only at ht
 rcases ht with rfl|rfl|rfl|rfl|rfl
 ·rw[(A3f K ⟨0,sa⟩ (by simp)).1];show(B2q 0).length≤65536;decide
 ·rw[(A3f K ⟨1,sa⟩ (by simp)).1];show(B2q 1).length≤65536;decide
 ·rw[(A3f K ⟨4,sa⟩ (by simp)).1];show(B2q 4).length≤65536;decide
 ·rw[(A3f K ⟨5,sa⟩ (by simp)).1];show(B2q 5).length≤65536;decide
 ·obtain⟨v1,v2⟩:=C3s K sa;rw[v2,A9f]at h;rw[v1];split
  ·exact A2t hx _
  ·next ha=>
   have hc:classB (A0s K sa).1=true:=by
    simp only[Bool.or_eq_true,Bool.true_and]at h
    rcases h with h|h
    ·exact h
    ·exact absurd h ha
   have:=D4c hc;unfold D1n;simp;omega
theorem D5a(p:Int):∀(L:List RW) (i:Nat) (acc:Option Nat) (k:Nat),ixF p L i acc=some k→acc=some k∨k<i+L.length
 |[],i,acc,k,h=> .inl h
 |r::L,i,acc,k,h=>by
  rw[ixF]at h
  rcases D5a p L (i+1) _ k h with h1|h1
  ·split at h1
   ·cases h1
    exact .inr (by simp)
   ·exact .inl h1
  ·exact .inr (by simp;omega)
theorem D4m(L:List RW)(p:Int):(B5t L p).getD 0≤L.length:=by
 cases h:B5t L p with
 |none=>exact Nat.zero_le _
 |some k=>
  rcases D5a p L 0 none k h with h1|h1
  ·cases h1
  ·show k≤_;omega
theorem C9y{n:Nat}(h:n≤1048576):A3m (n:Int):=A1i (by omega)
theorem D4q{r:RW}(hop:r.op<256):A9c (A3y r):=⟨hop,A1i (by show _∧_;simp[A3y]),A1i (by show _∧_;simp[A3y]),by simp[A3y],by simp[A3y],by simp[A3y],by simp[A3y]⟩
theorem C4x{K:List KV}(hx:∀i:Int,(kAt K i).s.length≤65536)(hn:∀i:Int,A3m (kAt K i).n){x:IN}(h:A9c x)(i:Nat):A9c (B0n K x i):=by
 unfold B0n;split
 ·exact⟨h.op,hn _,h.m,h.cl,h.nm,by simp,h.tx⟩
 split
 ·exact⟨h.op,hn _,h.m,h.cl,h.nm,by simp,h.tx⟩
 split
 ·exact⟨h.op,h.n,h.m,h.cl,h.nm,by simp,A3r hx _⟩
 ·exact h
theorem C4z{K:List KV}(hx:∀i:Int,(kAt K i).s.length≤65536){x:IN}(h:A9c x)(i t:Int):A9c (C7v K x i t):=by
 obtain⟨m1,m2,m3⟩:=A7g hx i t;exact⟨h.op,h.n,h.m,m1,m2,m3,h.tx⟩
theorem D3b{K:List KV}(hx:∀i:Int,(kAt K i).s.length≤65536)(hn:∀i:Int,A3m (kAt K i).n){L:List RW}(hl:L.length≤1048576){r:RW}(hop:r.op<256)(ha:A3m r.a)(hb:A3m r.b):A9c (B3r K L r):=by
 have h:=D4q hop;unfold B3r;split
 ·exact⟨h.op,C9y (Nat.le_trans (D4m L r.a) hl),h.m,h.cl,h.nm,h.ds,h.tx⟩
 split
 ·exact⟨h.op,ha,hb,h.cl,h.nm,h.ds,h.tx⟩
 split
 ·exact C4x hx hn h _
 split
 ·split
  ·exact C4x hx hn h _
  split
  ·exact C4z hx h _ _
  split
  ·exact C4z hx h _ _
  ·exact⟨h.op,h.n,h.m,A2t hx _,h.nm,h.ds,h.tx⟩
 ·exact⟨h.op,ha,h.m,h.cl,h.nm,h.ds,h.tx⟩
theorem B7z{bs:List UInt8}{L:List RW}(h:A1g bs=(0,L)):L.length≤4096∧∀r∈L,r.op<256∧A3m r.a∧A3m r.b:=by
 have h1:=C0v bs;have h2:=(A6u h).2.2.2;rw[h]at h1;refine⟨by show L.length≤4096;have h3:L.length≤bs.length:=h1;omega,fun r hr=> ?_⟩;obtain⟨k,hk⟩:=List.getElem?_of_mem hr
 have hp:=((A6u h).1 k r hk).1;have hle:=D6w (L.take k);have hk2:=(List.getElem?_eq_some_iff.1 hk).1;obtain⟨q,rfl⟩:=B4k bs r (by rw[h];exact hr)
 have hq:q≤1048576:=by
  have h5:(A7q bs q).pos=(q:Int):=rfl;rw[h5]at hp
  have h6:(A9d (L.take k)).length≤(A9d L).length:=by
   conv=>rhs;rw[←List.take_append_drop k L,C7k]
   rw[List.length_append];omega
  rw[(A6u h).2.2.1]at h6;omega
 have hw:=B7h bs q hq;refine⟨hw.2.2,hw.2.1,?_⟩;show A3m (A2f bs q (A0q (A3u bs q)));unfold A2f;split
 ·have:=B2s (A2d bs q (A0q (A3u bs q)));exact A1i (by omega)
 ·exact A1i (by omega)
theorem C7a{K:List KV}{p:KP}(h:A6f K p=true):p.loc.length≤64∧p.stk.length≤64∧(∀s∈p.loc,B3p s)∧(∀s∈p.stk,B3p s):=by
 unfold A6f A4s at h;simp only[Bool.and_eq_true,decide_eq_true_iff,List.all_eq_true]at h;obtain⟨⟨_,h2,h3⟩,h4,h5⟩:=h
 exact⟨by omega,by omega,fun s hs=>B3v (h3 s hs),fun s hs=>B3v (h5 s hs)⟩
theorem D4p{K:List KV}(hx:∀i:Int,(kAt K i).s.length≤65536)(hn:∀i:Int,A3m (kAt K i).n){k:KM}(hok:A2y K k=true)(hc:B0j K k=true){m:UM}(hm:m.p=B1j K k):m.Fit:=by
 unfold B0j at hc;simp only[Bool.and_eq_true,decide_eq_true_eq]at hc;obtain⟨_,h0,hins,htr,hmp⟩:=hc;obtain⟨L,hL⟩:∃L,L=(A1g k.code).2:=⟨_,rfl⟩
 have hd:A1g k.code=(0,L):=Prod.ext h0 hL.symm;obtain⟨b1,b2⟩:=B7z hd;unfold A2y at hok;simp only[Bool.and_eq_true,List.all_eq_true]at hok;obtain⟨⟨⟨⟨⟨_,_⟩,q3⟩,q4⟩,q5⟩,_⟩:=hok
 unfold A8z at q3;have q3':=of_decide_eq_true q3;have e1:m.nm=A1p K k.nm:=congrArg UM.nm hm;have e2:m.ds=A1p K k.ds:=congrArg UM.ds hm
 have e3:m.code=(A1g k.code).2.map (B3r K (A1g k.code).2):=congrArg UM.code hm;have e4:m.traps=k.traps.map (B0z K (A1g k.code).2 k.cn):=congrArg UM.traps hm
 have e5:m.maps.map UP.p=k.maps.map (D4v K (A1g k.code).2 k.cn):=congrArg UM.maps hm;rw[hd]at e3 e4 e5;rw[←hL]at hmp;dsimp only at e3 e4 e5;have e6:=congrArg List.length e5
 rw[List.length_map,List.length_map]at e6
 refine⟨by rw[e1];exact A3r hx _,by rw[e2];exact A3r hx _,by rw[e3,List.length_map];exact b1,fun x hxm=> ?_,by rw[e4,List.length_map];omega,fun t ht=> ?_,by omega,fun p hp=> ?_⟩
 ·rw[e3]at hxm;obtain⟨r,hr,rfl⟩:=List.mem_map.1 hxm;obtain⟨r1,r2,r3⟩:=b2 r hr;exact D3b hx hn (by omega) r1 r2 r3
 ·rw[e4]at ht;obtain⟨q,hq,rfl⟩:=List.mem_map.1 ht;unfold B0z;dsimp only;split
  ·simp
  ·exact A2t hx _
 ·have hpp:p.p∈m.maps.map UP.p:=List.mem_map_of_mem hp;rw[e5]at hpp;obtain⟨q,hq,hqe⟩:=List.mem_map.1 hpp;obtain⟨l1,l2,l3,l4⟩:=C7a (q5 q hq);have hqc:=List.all_eq_true.1 hmp q hq
  unfold C7y at hqc;simp only[Bool.and_eq_true,List.all_eq_true]at hqc;obtain⟨_,s1,s2⟩:=hqc;have g1:p.loc=q.loc.map (A1v K):=(congrArg UP.loc hqe).symm
  have g2:p.stk=q.stk.map (A1v K):=(congrArg UP.stk hqe).symm;refine⟨by rw[g1,List.length_map];omega,by rw[g2,List.length_map];omega,fun t ht=> ?_,fun t ht=> ?_⟩
  ·rw[g1]at ht;obtain⟨s,hs,rfl⟩:=List.mem_map.1 ht;exact B9q hx (l3 s hs) (s1 s hs)
  ·rw[g2]at ht;obtain⟨s,hs,rfl⟩:=List.mem_map.1 ht;exact B9q hx (l4 s hs) (s2 s hs)
theorem D1u{f:KF}{u:UU}(hu:u.p=B8i f)(hc:B1c f=true)(hx:∀i:Int,(kAt f.pool i).s.length≤65536)(hn:∀i:Int,A3m (kAt f.pool i).n):u.Fit:=by
 have e1:u.nm=(A0s f.pool f.th).1:=congrArg UU.nm hu
 have e2:u.su=if f.su=0 then []else(A0s f.pool f.su).1:=congrArg UU.su hu
 have e3:u.fields=f.fields.map (A7n f.pool):=congrArg UU.fields hu;have e4:u.methods.map UM.p=f.methods.map (B1j f.pool):=congrArg UU.methods hu;unfold B1c at hc
 simp only[Bool.and_eq_true,List.all_eq_true]at hc;obtain⟨h0,_,_,_,h4⟩:=hc;unfold A2i at h0;simp only[Bool.and_eq_true,List.all_eq_true,decide_eq_true_iff]at h0;have e5:=congrArg List.length e4
 rw[List.length_map,List.length_map]at e5;have hlen:=h0.1.1.2;refine⟨by rw[e1];exact A2t hx _,?_,by rw[e3,List.length_map];omega,fun d hd=> ?_,by omega,fun m hm=> ?_⟩
 ·rw[e2];split
  ·simp
  ·exact A2t hx _
 ·rw[e3]at hd;obtain⟨k,hk,rfl⟩:=List.mem_map.1 hd;exact⟨A3r hx _,A3r hx _⟩
 ·have hmm:m.p∈u.methods.map UM.p:=List.mem_map_of_mem hm;rw[e4]at hmm;obtain⟨k,hk,hke⟩:=List.mem_map.1 hmm;exact D4p hx hn (h0.2 k hk) (h4 k hk) hke.symm
end
end Go.Proofs.YtclpkipaehpkdaaGreatDoor
