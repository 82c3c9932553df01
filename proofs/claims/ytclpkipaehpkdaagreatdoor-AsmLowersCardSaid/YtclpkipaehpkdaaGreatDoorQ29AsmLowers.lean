/- asm -/
import Derived.Test.YtclpkipaehpkdaaGreatDoorQ28AsmLowers
import Derived.Test.YtclpkipaehpkdaaGreatDoorQ27AsmLowers
import Derived.Test.YtclpkipaehpkdaaGreatDoorQ26AsmLowers
set_option linter.unusedVariables false
set_option linter.unusedSimpArgs false
set_option maxRecDepth 100000
set_option maxHeartbeats 64000000
namespace Go.Proofs.YtclpkipaehpkdaaGreatDoor
section
open Go.ChangeShapes Go.WideShapes Go.ChangeAt Go.RowKit
theorem D1s:zf.Sml:=⟨by decide,by decide,by decide,fun m hm=>by cases hm⟩
theorem C1y(u:UU)(x:KF)(hx:x.lp=(B1c u).2):∀m∈x.methods,m.code.length<=4096:=by
 intro m hm;have hmths:x.methods.map KM.lp=(B1c u).2.methods:=congrArg KF.methods hx;have hm':m.lp∈(B1c u).2.methods:=by rw[<-hmths];exact List.mem_map_of_mem hm
 have hm2:m.lp∈(LW.methods _ u.methods).2:=hm';obtain⟨s',m0,_,e⟩:=B4p hm2;have:m.code=(LW.method s' m0).2.code:=(show m.code=m.lp.code from rfl).trans (congrArg KM.code e);rw[this]
 exact B5p _
theorem D9d(u:UU)(x:KF)(V:World)(hx:x.lp=(B1c u).2)(hr:x.Rd V)(hf:x.Fit):x.Big:=by
 have a1:=hf.pn;have a2:=hf.fn;have a3:=hf.mn;have h1:=hr.pool.1;refine⟨by omega,by omega,by omega,fun c hc=> ?_,fun m hm=> ?_⟩
 ·obtain⟨i,hi,rfl⟩:=List.getElem_of_mem hc;have:=hf.ps i (by omega);rw[A8c x.pool i hi]at this;omega
 have hfm:=hf.each m hm;have b1:=C1y u x hx m hm;have b2:=(hr.each m hm).code.1;have b3:=hfm.tn;have b4:=hfm.mn;refine⟨by omega,by omega,by omega,fun p hp=> ?_⟩
 have b5:=(hfm.each p hp).ln;have b6:=(hfm.each p hp).sn;exact⟨by omega,by omega⟩
theorem walk_AsmLowers(u:UU)(w:World)(h0:D8f w u)(hv:VW w):
  Calls Tryz.prog 4 #[.agg u.cells.toArray] w fun e w'=>e= .returned (.bool true)/\Below w.heap.size w w':=by
 obtain⟨hr,hbig⟩:=h0;have HX:=hzz hr;have HBG:=hzz hbig;have HV:=hzz hv;have hal0:=A0f w (.cells #[.string ⟨u.nm.toArray⟩,.string ⟨u.su.toArray⟩,.slice u.fa u.fn u.fc,.slice u.ma u.mn u.mc] UnT)
 have HT0:=hzz (show(w.alloc (.cells #[.string ⟨u.nm.toArray⟩,.string ⟨u.su.toArray⟩,.slice u.fa u.fn u.fc,.slice u.ma u.mn u.mc] UnT)).heap[w.heap.size]? =some (.cells u.cells.toArray UnT (0,0))from heap_alloc_last w _)
 have HB0:=hzz hal0;clear hal0 hr hbig hv;change Calls Tryz.prog 4 #[.agg #[.string ⟨u.nm.toArray⟩,.string ⟨u.su.toArray⟩,.slice u.fa u.fn u.fc,.slice u.ma u.mn u.mc]] w _;go_enter Tryz.func4,Tryz.ntmps4
 go_upto_region 1 with fail
 generalize w.alloc _=w0 at*;obtain⟨bu,hbu⟩:∃b,b=w.heap.size:=⟨_,rfl⟩;rw[<-hbu]at HT0⊢;clear hbu;have HFX:=hzz (D1t w0 (HV.out.below HB0.out))
 go_wp2_with fail
 refine HFX.out.mono ?_;rintro e w1 ⟨rfl,hb1⟩;have HB1:=btz HB0 hb1;have HT1:=hzz (A0c HT0.out hb1);clear hb1 HFX HT0 HB0;have k0:=A0a HT1.out 0 rfl;have k1:=A0a HT1.out 1 rfl
 have k2:=A0a HT1.out 2 rfl;have k3:=A0a HT1.out 3 rfl;dsimp only[UU.cells]at k0 k1 k2 k3;have HFW:=hzz (D4v w1 u (HX.out.below HB1.out) HBG.out);unfold UU.cells at HFW
 go_wp2_with fail
 refine HFW.out.mono ?_;rintro e w2 ⟨bw,rfl,hb2,hfw⟩;have HB2:=btz HB1 hb2;have HT2:=hzz (A0c HT1.out hb2);have HFEW:=hzz hfw;clear hb2 hfw HFW HT1 HB1 k0 k1 k2 k3
 cases bw with
 |false=>
  go_wp2_with fail
  go_ret;exact⟨rfl,HB2.out⟩
 |true=>
 have HFIT:=hzz ((HFEW.out rfl).fit HBG.out HX.out);have k0:=A0a HT2.out 0 rfl;have k1:=A0a HT2.out 1 rfl;have k2:=A0a HT2.out 2 rfl;have k3:=A0a HT2.out 3 rfl
 dsimp only[UU.cells]at k0 k1 k2 k3;have HLO:=hzz (B3j w2 u (HX.out.below HB2.out) HFIT.out (HV.out.below HB2.out));unfold UU.cells at HLO
 go_wp2_with fail
 refine HLO.out.mono ?_;rintro e w3 ⟨x,rfl,q1,q2,hb3⟩;have HB3:=btz HB2 hb3;have HT3:=hzz (A0c HT2.out hb3);clear hb3 HLO HT2 HB2 HFEW k0 k1 k2 k3
 rcases D2x u with hk|hk|hk|hk
 rotate_left
 ·have he:C2h u≠0:=by rw[hk];decide
  obtain rfl:x=zf:=q2 he;have HLE:=hzz hk;rw[hk];clear q1 q2 hk he;dsimp only[KF.cells,zf]
  go_upto_region 6 with fail
  have hal:=A0f w3 (.cells #[.slice none 0 0,.int .i64 0,.int .i64 0,.slice none 0 0,.slice none 0 0] A3x);have HB4:=btz HB3 hal
  have HG4:=hzz (heap_alloc_last w3 (.cells #[.slice none 0 0,.int .i64 0,.int .i64 0,.slice none 0 0,.slice none 0 0] A3x));clear hal HB3;generalize w3.alloc _=w4 at*;generalize w3.heap.size=gx at*
  have k0:=A0a HG4.out 0 rfl;have k1:=A0a HG4.out 1 rfl;have k2:=A0a HG4.out 2 rfl;have k3:=A0a HG4.out 3 rfl;have k4:=A0a HG4.out 4 rfl
  have HSM:=hzz (B8u w4 zf zf (C0w w4) (C0w w4) rfl D1s);dsimp only[KF.vals,zf]at HSM
  go_wp2_with fail
  refine HSM.out.mono ?_;rintro e w5 ⟨rfl,hb5⟩;have HB5:=btz HB4 hb5;clear hb5
  go_wp2_with fail
  go_ret;exact⟨rfl,HB5.out⟩
 ·have he:C2h u≠0:=by rw[hk];decide
  obtain rfl:x=zf:=q2 he;have HLE:=hzz hk;rw[hk];clear q1 q2 hk he;dsimp only[KF.cells,zf]
  go_upto_region 6 with fail
  have hal:=A0f w3 (.cells #[.slice none 0 0,.int .i64 0,.int .i64 0,.slice none 0 0,.slice none 0 0] A3x);have HB4:=btz HB3 hal
  have HG4:=hzz (heap_alloc_last w3 (.cells #[.slice none 0 0,.int .i64 0,.int .i64 0,.slice none 0 0,.slice none 0 0] A3x));clear hal HB3;generalize w3.alloc _=w4 at*;generalize w3.heap.size=gx at*
  have k0:=A0a HG4.out 0 rfl;have k1:=A0a HG4.out 1 rfl;have k2:=A0a HG4.out 2 rfl;have k3:=A0a HG4.out 3 rfl;have k4:=A0a HG4.out 4 rfl
  have HSM:=hzz (B8u w4 zf zf (C0w w4) (C0w w4) rfl D1s);dsimp only[KF.vals,zf]at HSM
  go_wp2_with fail
  refine HSM.out.mono ?_;rintro e w5 ⟨rfl,hb5⟩;have HB5:=btz HB4 hb5;clear hb5
  go_wp2_with fail
  go_ret;exact⟨rfl,HB5.out⟩
 ·have he:C2h u≠0:=by rw[hk];decide
  obtain rfl:x=zf:=q2 he;have HLE:=hzz hk;rw[hk];clear q1 q2 hk he;dsimp only[KF.cells,zf]
  go_upto_region 6 with fail
  have hal:=A0f w3 (.cells #[.slice none 0 0,.int .i64 0,.int .i64 0,.slice none 0 0,.slice none 0 0] A3x);have HB4:=btz HB3 hal
  have HG4:=hzz (heap_alloc_last w3 (.cells #[.slice none 0 0,.int .i64 0,.int .i64 0,.slice none 0 0,.slice none 0 0] A3x));clear hal HB3;generalize w3.alloc _=w4 at*;generalize w3.heap.size=gx at*
  have k0:=A0a HG4.out 0 rfl;have k1:=A0a HG4.out 1 rfl;have k2:=A0a HG4.out 2 rfl;have k3:=A0a HG4.out 3 rfl;have k4:=A0a HG4.out 4 rfl
  have HSM:=hzz (B8u w4 zf zf (C0w w4) (C0w w4) rfl D1s);dsimp only[KF.vals,zf]at HSM
  go_wp2_with fail
  refine HSM.out.mono ?_;rintro e w5 ⟨rfl,hb5⟩;have HB5:=btz HB4 hb5;clear hb5
  go_wp2_with fail
  go_ret;exact⟨rfl,HB5.out⟩
 obtain⟨hx1,hx2,hx3⟩:=q1 hk;have HXF:=hzz hx3;have HXR:=hzz hx2;have HXB:=hzz (D9d u x w3 hx1 hx2 hx3)
 have HLL:=hzz (D5i u (fun m hm y hy=>((HFIT.out.mt m hm).ins y hy).op) hk x hx1 (fun m hm=>(hx2.each m hm).code.1.symm));rw[hk];clear q1 q2 hk hx1 hx2 hx3;dsimp only[KF.cells]
 go_upto_region 6 with fail
 have hal:=A0f w3 (.cells #[.slice x.pa x.pn x.pc,.int .i64 x.th,.int .i64 x.su,.slice x.fa x.fn x.fc,.slice x.ma x.mn x.mc] A3x);have HB4:=btz HB3 hal;have HT4:=hzz (A0c HT3.out hal)
 have HX4:=hzz (HXR.out.below hal)
 have HG4:=hzz (show(w3.alloc (.cells #[.slice x.pa x.pn x.pc,.int .i64 x.th,.int .i64 x.su,.slice x.fa x.fn x.fc,.slice x.ma x.mn x.mc] A3x)).heap[w3.heap.size]? =some (.cells x.cells.toArray A3x (0,0))from heap_alloc_last w3 _)
 clear hal HB3 HT3 HXR;generalize w3.alloc _=w4 at*;generalize w3.heap.size=gx at*;have k0:=A0a HG4.out 0 rfl;have k1:=A0a HG4.out 1 rfl;have k2:=A0a HG4.out 2 rfl
 have k3:=A0a HG4.out 3 rfl;have k4:=A0a HG4.out 4 rfl;dsimp only[KF.cells]at k0 k1 k2 k3 k4;have HRL:=hzz (D4a w4 x HX4.out HXF.out HXB.out)
 go_wp2_with fail
 refine HRL.out.mono ?_;rintro e w5 ⟨v,ok,rfl,q1,q2,-,hb5⟩;obtain rfl:ok=true:=by rw[q1];exact HLL.out.1
 have HB5:=btz HB4 hb5;have HT5:=hzz (A0c HT4.out hb5);have HX5:=hzz (HX4.out.below hb5);have HG5:=hzz (A0c HG4.out hb5);have HV5:=hzz (q2 rfl).2.rd
 have HVP:=hzz ((q2 rfl).1.trans HLL.out.2);clear hb5 q1 q2 HRL HB4 HT4 HX4 HG4 k0 k1 k2 k3 k4;obtain⟨vnm,vsu,vfa,vfn,vfc,vfs,vma,vmn,vmc,vms⟩:=v;dsimp only[UU.cells]
 go_upto_region 9 with fail
 have hal:=A0f w5 (.cells #[.string ⟨vnm.toArray⟩,.string ⟨vsu.toArray⟩,.slice vfa vfn vfc,.slice vma vmn vmc] UnT);have HB6:=btz HB5 hal;have HT6:=hzz (A0c HT5.out hal)
 have HX6:=hzz (HX5.out.below hal);have HG6:=hzz (A0c HG5.out hal);have HV6:=hzz (HV5.out.below hal)
 have HGV:=hzz (heap_alloc_last w5 (.cells #[.string ⟨vnm.toArray⟩,.string ⟨vsu.toArray⟩,.slice vfa vfn vfc,.slice vma vmn vmc] UnT));clear hal HB5 HT5 HX5 HG5 HV5;generalize w5.alloc _=w6 at*
 generalize w5.heap.size=gv at*;have k0:=A0a HG6.out 0 rfl;have k1:=A0a HG6.out 1 rfl;have k2:=A0a HG6.out 2 rfl;have k3:=A0a HG6.out 3 rfl;have k4:=A0a HG6.out 4 rfl
 dsimp only[KF.cells]at k0 k1 k2 k3 k4;have HLF:=hzz (B5d w6 x HX6.out HXF.out (HV.out.below HB6.out) (B2f HX6.out HXF.out))
 go_wp2_with fail
 refine HLF.out.mono ?_;rintro e w7 ⟨z,er,rfl,q1,q2,-,-,q5,hb7⟩;obtain rfl:er=0:=q1.2 HLL.out.1;have HB7:=btz HB6 hb7;have HT7:=hzz (A0c HT6.out hb7)
 have HGV7:=hzz (A0c HGV.out hb7);have HV7:=hzz (HV6.out.below hb7);have HZ7:=hzz q5.rd;have HZP:=hzz ((q2 rfl).trans HLL.out.2);clear hb7 q1 q2 q5 HLF HB6 HT6 HX6 HG6 HV6 HGV k0 k1 k2 k3 k4
 obtain⟨znm,zsu,zfa,zfn,zfc,zfs,zma,zmn,zmc,zms⟩:=z;dsimp only[UU.cells]
 go_upto_region 10 with fail
 have hal:=A0f w7 (.cells #[.string ⟨znm.toArray⟩,.string ⟨zsu.toArray⟩,.slice zfa zfn zfc,.slice zma zmn zmc] UnT);have HB8:=btz HB7 hal;have HT8:=hzz (A0c HT7.out hal)
 have HGV8:=hzz (A0c HGV7.out hal);have HV8:=hzz (HV7.out.below hal);have HZ8:=hzz (HZ7.out.below hal)
 have HGZ:=hzz (heap_alloc_last w7 (.cells #[.string ⟨znm.toArray⟩,.string ⟨zsu.toArray⟩,.slice zfa zfn zfc,.slice zma zmn zmc] UnT));clear hal HB7 HT7 HGV7 HV7 HZ7;generalize w7.alloc _=w8 at*
 generalize w7.heap.size=gz at*;have k0:=A0a HT8.out 0 rfl;have k1:=A0a HT8.out 1 rfl;have k2:=A0a HT8.out 2 rfl;have k3:=A0a HT8.out 3 rfl;dsimp only[UU.cells]at k0 k1 k2 k3
 have y0:=A0a HGV8.out 0 rfl;have y1:=A0a HGV8.out 1 rfl;have y2:=A0a HGV8.out 2 rfl;have y3:=A0a HGV8.out 3 rfl
 have HS1:=hzz (B6b w8 u ⟨vnm,vsu,vfa,vfn,vfc,vfs,vma,vmn,vmc,vms⟩ (HX.out.below HB8.out) HV8.out HVP.out.symm HFIT.out);dsimp only[UU.cells]at HS1
 go_wp2_with fail
 refine HS1.out.mono ?_;rintro e w9 ⟨rfl,hb9⟩;have HB9:=btz HB8 hb9;have HT9:=hzz (A0c HT8.out hb9);have HGZ9:=hzz (A0c HGZ.out hb9);have HZ9:=hzz (HZ8.out.below hb9)
 clear hb9 HS1 HB8 HT8 HGV8 HV8 HZ8 HGZ k0 k1 k2 k3 y0 y1 y2 y3;have k0:=A0a HT9.out 0 rfl;have k1:=A0a HT9.out 1 rfl;have k2:=A0a HT9.out 2 rfl;have k3:=A0a HT9.out 3 rfl
 dsimp only[UU.cells]at k0 k1 k2 k3;have z0:=A0a HGZ9.out 0 rfl;have z1:=A0a HGZ9.out 1 rfl;have z2:=A0a HGZ9.out 2 rfl;have z3:=A0a HGZ9.out 3 rfl
 have HS2:=hzz (B6b w9 u ⟨znm,zsu,zfa,zfn,zfc,zfs,zma,zmn,zmc,zms⟩ (HX.out.below HB9.out) HZ9.out HZP.out.symm HFIT.out);dsimp only[UU.cells]at HS2
 go_wp2_with fail
 refine HS2.out.mono ?_;rintro e w10 ⟨rfl,hb10⟩;have HB10:=btz HB9 hb10;clear hb10
 go_wp2_with fail
 go_ret;exact⟨rfl,HB10.out⟩
end
end Go.Proofs.YtclpkipaehpkdaaGreatDoor
