/- asm: own texts, merged (wip/merge3.py). No condition. -/
import Derived.Test.YtclpkipaehpkdaaGreatDoorQ34AsmLifts
set_option linter.unusedVariables false
set_option linter.unusedSimpArgs false
set_option maxRecDepth 100000
set_option maxHeartbeats 64000000
namespace Go.Proofs.YtclpkipaehpkdaaGreatDoor
section
open Go.ChangeShapes Go.WideShapes Go.ChangeAt Go.RowKit
theorem D0s(fa ma ca:Option Addr)(fc mc cc:Nat):(fxU fa ma ca fc mc cc).Fit:=by
 refine⟨by simp[fxU],by simp[fxU],by simp[fxU],fun f hf=> ?_,by simp[fxU],fun m hm=> ?_⟩
 ·obtain rfl:f=fxF:=by simpa[fxU]using hf
  simp[fxF]
 ·obtain rfl:m=fxM ca cc:=by simpa[fxU]using hm
  refine⟨by simp[fxM],by simp[fxM],by simp[fxM,fxI],fun x hx=> ?_,by simp[fxM],fun t ht=>by simp[fxM]at ht,by simp[fxM],fun p hp=>by simp[fxM]at hp⟩
  have:x=⟨167,1,0,[],[],[],[]⟩∨x=⟨177,0,0,[],[],[],[]⟩:=by simpa[fxM,fxI]using hx
  rcases this with rfl|rfl
  ·exact⟨by decide,by constructor<;>decide,by constructor<;>decide,by simp,by simp,by simp,by simp⟩
  ·exact⟨by decide,by constructor<;>decide,by constructor<;>decide,by simp,by simp,by simp,by simp⟩
theorem D5k:u0.Fit:=⟨by simp[u0],by simp[u0],by simp[u0],fun f hf=>by simp[u0]at hf,by simp[u0],fun f hf=>by simp[u0]at hf⟩
theorem E0d(w:World):u0.Rd w:=⟨Ss.nil _ _,Ss.nil _ _,fun m hm=>by cases hm⟩
def zf:KF:=⟨none,0,0,[],0,0,none,0,0,[],none,0,0,[]⟩
theorem E0n(w:World):zf.Rd w:=⟨Ss.nil _ _,Ss.nil _ _,Ss.nil _ _,fun m hm=>by cases hm⟩
theorem D5q:zf.Fit:=⟨by decide,fun i hi=>by simp[zf]at hi,by decide,by decide,fun d hd=>by simp[zf]at hd,fun d hd=>by simp[zf]at hd⟩
theorem E0y:A2i zf=false:=by kernel_rfl
theorem B1n{f:KF}{w:World}(hr:f.Rd w)(hf:f.Fit)(i:Int):(kAt f.pool i).s.length≤65536:=by
 have hl:=hr.pool.1;by_cases h:0≤i∧i<f.pn
 ·obtain⟨k,rfl⟩:=Int.eq_ofNat_of_zero_le h.1;exact hf.ps k (by omega)
 ·unfold kAt;by_cases h2:i.toNat<f.pool.length
  ·by_cases h3:0≤i
   ·omega
   ·have h4:=hf.ps 0 (by omega);unfold kAt at h4;rw[show i.toNat=0 by omega];exact h4
  ·rw[List.getD_eq_getElem?_getD,List.getElem?_eq_none (by omega)];simp[kz]
theorem C8j(w:World)(hv:VW w):Calls Tryz.prog 8 #[] w (fun e w'=>e= .returned (.bool true)∧Below w.heap.size w w'):=by
 have hs1:(w.alloc (.cells #[.bool false,.string ⟨#[120]⟩,.string ⟨#[73]⟩] 52)).heap.size=w.heap.size+1:=by simp
 have hs2:((w.alloc (.cells #[.bool false,.string ⟨#[120]⟩,.string ⟨#[73]⟩] 52)).alloc (.cells #[.int .u8 167,.int .i64 1,.int .i64 0,.string ⟨#[]⟩,.string ⟨#[]⟩,.string ⟨#[]⟩,.string ⟨#[]⟩,.int .u8 177,.int .i64 0,.int .i64 0,.string ⟨#[]⟩,.string ⟨#[]⟩,.string ⟨#[]⟩,.string ⟨#[]⟩] A1f)).heap.size=w.heap.size+1+1:=by simp
 have hs3:(((w.alloc (.cells #[.bool false,.string ⟨#[120]⟩,.string ⟨#[73]⟩] 52)).alloc (.cells #[.int .u8 167,.int .i64 1,.int .i64 0,.string ⟨#[]⟩,.string ⟨#[]⟩,.string ⟨#[]⟩,.string ⟨#[]⟩,.int .u8 177,.int .i64 0,.int .i64 0,.string ⟨#[]⟩,.string ⟨#[]⟩,.string ⟨#[]⟩,.string ⟨#[]⟩] A1f)).alloc (.cells #[.bool true,.string ⟨#[103,111]⟩,.string ⟨#[40,41,86]⟩,.int .i64 0,.int .i64 0,.slice (some ⟨w.heap.size+1,0,none⟩) 2 2,.slice none 0 0,.slice none 0 0] A0v)).heap.size=w.heap.size+1+1+1:=by simp
 have b1:Below w.heap.size w (w.alloc (.cells #[.bool false,.string ⟨#[120]⟩,.string ⟨#[73]⟩] 52)):=A0e _ _
 have b2:=A0e (w.alloc (.cells #[.bool false,.string ⟨#[120]⟩,.string ⟨#[73]⟩] 52)) (.cells #[.int .u8 167,.int .i64 1,.int .i64 0,.string ⟨#[]⟩,.string ⟨#[]⟩,.string ⟨#[]⟩,.string ⟨#[]⟩,.int .u8 177,.int .i64 0,.int .i64 0,.string ⟨#[]⟩,.string ⟨#[]⟩,.string ⟨#[]⟩,.string ⟨#[]⟩] A1f)
 have b3:=A0e ((w.alloc (.cells #[.bool false,.string ⟨#[120]⟩,.string ⟨#[73]⟩] 52)).alloc (.cells #[.int .u8 167,.int .i64 1,.int .i64 0,.string ⟨#[]⟩,.string ⟨#[]⟩,.string ⟨#[]⟩,.string ⟨#[]⟩,.int .u8 177,.int .i64 0,.int .i64 0,.string ⟨#[]⟩,.string ⟨#[]⟩,.string ⟨#[]⟩,.string ⟨#[]⟩] A1f)) (.cells #[.bool true,.string ⟨#[103,111]⟩,.string ⟨#[40,41,86]⟩,.int .i64 0,.int .i64 0,.slice (some ⟨w.heap.size+1,0,none⟩) 2 2,.slice none 0 0,.slice none 0 0] A0v)
 have b4:=A0e (((w.alloc (.cells #[.bool false,.string ⟨#[120]⟩,.string ⟨#[73]⟩] 52)).alloc (.cells #[.int .u8 167,.int .i64 1,.int .i64 0,.string ⟨#[]⟩,.string ⟨#[]⟩,.string ⟨#[]⟩,.string ⟨#[]⟩,.int .u8 177,.int .i64 0,.int .i64 0,.string ⟨#[]⟩,.string ⟨#[]⟩,.string ⟨#[]⟩,.string ⟨#[]⟩] A1f)).alloc (.cells #[.bool true,.string ⟨#[103,111]⟩,.string ⟨#[40,41,86]⟩,.int .i64 0,.int .i64 0,.slice (some ⟨w.heap.size+1,0,none⟩) 2 2,.slice none 0 0,.slice none 0 0] A0v)) (.cells #[.string ⟨#[97,47,66]⟩,.string ⟨#[]⟩,.slice (some ⟨w.heap.size,0,none⟩) 1 1,.slice (some ⟨w.heap.size+1+1,0,none⟩) 1 1] A1y)
 have r1:=A0c (A0c (A0c (heap_alloc_last w (.cells #[.bool false,.string ⟨#[120]⟩,.string ⟨#[73]⟩] 52)) b2) b3) b4
 have r2:=A0c (A0c (heap_alloc_last (w.alloc (.cells #[.bool false,.string ⟨#[120]⟩,.string ⟨#[73]⟩] 52)) (.cells #[.int .u8 167,.int .i64 1,.int .i64 0,.string ⟨#[]⟩,.string ⟨#[]⟩,.string ⟨#[]⟩,.string ⟨#[]⟩,.int .u8 177,.int .i64 0,.int .i64 0,.string ⟨#[]⟩,.string ⟨#[]⟩,.string ⟨#[]⟩,.string ⟨#[]⟩] A1f)) b3) b4
 have r3:=A0c (heap_alloc_last ((w.alloc (.cells #[.bool false,.string ⟨#[120]⟩,.string ⟨#[73]⟩] 52)).alloc (.cells #[.int .u8 167,.int .i64 1,.int .i64 0,.string ⟨#[]⟩,.string ⟨#[]⟩,.string ⟨#[]⟩,.string ⟨#[]⟩,.int .u8 177,.int .i64 0,.int .i64 0,.string ⟨#[]⟩,.string ⟨#[]⟩,.string ⟨#[]⟩,.string ⟨#[]⟩] A1f)) (.cells #[.bool true,.string ⟨#[103,111]⟩,.string ⟨#[40,41,86]⟩,.int .i64 0,.int .i64 0,.slice (some ⟨w.heap.size+1,0,none⟩) 2 2,.slice none 0 0,.slice none 0 0] A0v)) b4
 have r4:=heap_alloc_last (((w.alloc (.cells #[.bool false,.string ⟨#[120]⟩,.string ⟨#[73]⟩] 52)).alloc (.cells #[.int .u8 167,.int .i64 1,.int .i64 0,.string ⟨#[]⟩,.string ⟨#[]⟩,.string ⟨#[]⟩,.string ⟨#[]⟩,.int .u8 177,.int .i64 0,.int .i64 0,.string ⟨#[]⟩,.string ⟨#[]⟩,.string ⟨#[]⟩,.string ⟨#[]⟩] A1f)).alloc (.cells #[.bool true,.string ⟨#[103,111]⟩,.string ⟨#[40,41,86]⟩,.int .i64 0,.int .i64 0,.slice (some ⟨w.heap.size+1,0,none⟩) 2 2,.slice none 0 0,.slice none 0 0] A0v)) (.cells #[.string ⟨#[97,47,66]⟩,.string ⟨#[]⟩,.slice (some ⟨w.heap.size,0,none⟩) 1 1,.slice (some ⟨w.heap.size+1+1,0,none⟩) 1 1] A1y)
 rw[hs1]at r2;rw[hs2]at r3;rw[hs3]at r4
 have hB0:Below w.heap.size w ((((w.alloc (.cells #[.bool false,.string ⟨#[120]⟩,.string ⟨#[73]⟩] 52)).alloc (.cells #[.int .u8 167,.int .i64 1,.int .i64 0,.string ⟨#[]⟩,.string ⟨#[]⟩,.string ⟨#[]⟩,.string ⟨#[]⟩,.int .u8 177,.int .i64 0,.int .i64 0,.string ⟨#[]⟩,.string ⟨#[]⟩,.string ⟨#[]⟩,.string ⟨#[]⟩] A1f)).alloc (.cells #[.bool true,.string ⟨#[103,111]⟩,.string ⟨#[40,41,86]⟩,.int .i64 0,.int .i64 0,.slice (some ⟨w.heap.size+1,0,none⟩) 2 2,.slice none 0 0,.slice none 0 0] A0v)).alloc (.cells #[.string ⟨#[97,47,66]⟩,.string ⟨#[]⟩,.slice (some ⟨w.heap.size,0,none⟩) 1 1,.slice (some ⟨w.heap.size+1+1,0,none⟩) 1 1] A1y)):=((((Below.refl w.heap.size w).alloc (Nat.le_refl _) _).alloc (by simp) _).alloc (by simp;omega) _).alloc (by simp;omega) _
 have hrd:(fxU (some ⟨w.heap.size,0,none⟩) (some ⟨w.heap.size+1+1,0,none⟩) (some ⟨w.heap.size+1,0,none⟩) 1 1 2).Rd ((((w.alloc (.cells #[.bool false,.string ⟨#[120]⟩,.string ⟨#[73]⟩] 52)).alloc (.cells #[.int .u8 167,.int .i64 1,.int .i64 0,.string ⟨#[]⟩,.string ⟨#[]⟩,.string ⟨#[]⟩,.string ⟨#[]⟩,.int .u8 177,.int .i64 0,.int .i64 0,.string ⟨#[]⟩,.string ⟨#[]⟩,.string ⟨#[]⟩,.string ⟨#[]⟩] A1f)).alloc (.cells #[.bool true,.string ⟨#[103,111]⟩,.string ⟨#[40,41,86]⟩,.int .i64 0,.int .i64 0,.slice (some ⟨w.heap.size+1,0,none⟩) 2 2,.slice none 0 0,.slice none 0 0] A0v)).alloc (.cells #[.string ⟨#[97,47,66]⟩,.string ⟨#[]⟩,.slice (some ⟨w.heap.size,0,none⟩) 1 1,.slice (some ⟨w.heap.size+1+1,0,none⟩) 1 1] A1y)):=by
  refine⟨Ss.lit UF.cells_length r1 rfl rfl,Ss.lit UM.cells_length r3 rfl rfl,fun m hm=> ?_⟩;obtain rfl:m=fxM (some ⟨w.heap.size+1,0,none⟩) 2:=by simpa[fxU]using hm
  exact⟨Ss.lit IN.cells_length r2 rfl rfl,Ss.nil _ _,Ss.nil _ _,fun p hp=>by simp[fxM]at hp⟩
 have HU:=Lib.hid hrd;have HB0:=Lib.hid hB0;have HG:=Lib.hid r4;have HV:=Lib.hid hv;clear hs1 hs2 hs3 b1 b2 b3 b4 r1 r2 r3 r4 hB0 hrd hv;go_enter Tryz.func8,Tryz.ntmps8
 go_upto_region 2 with fail
 generalize((((w.alloc (.cells #[.bool false,.string ⟨#[120]⟩,.string ⟨#[73]⟩] 52)).alloc (.cells #[.int .u8 167,.int .i64 1,.int .i64 0,.string ⟨#[]⟩,.string ⟨#[]⟩,.string ⟨#[]⟩,.string ⟨#[]⟩,.int .u8 177,.int .i64 0,.int .i64 0,.string ⟨#[]⟩,.string ⟨#[]⟩,.string ⟨#[]⟩,.string ⟨#[]⟩] A1f)).alloc (.cells #[.bool true,.string ⟨#[103,111]⟩,.string ⟨#[40,41,86]⟩,.int .i64 0,.int .i64 0,.slice (some ⟨w.heap.size+1,0,none⟩) 2 2,.slice none 0 0,.slice none 0 0] A0v)).alloc (.cells #[.string ⟨#[97,47,66]⟩,.string ⟨#[]⟩,.slice (some ⟨w.heap.size,0,none⟩) 1 1,.slice (some ⟨w.heap.size+1+1,0,none⟩) 1 1] A1y))=W0 at*
 have HLO:=Lib.hid (B6k W0 (fxU (some ⟨w.heap.size,0,none⟩) (some ⟨w.heap.size+1+1,0,none⟩) (some ⟨w.heap.size+1,0,none⟩) 1 1 2) HU.out (D0s _ _ _ _ _ _) (HV.out.below HB0.out))
 unfold C4a at HLO;rw[D8e]at HLO
 have HLN:Hid (Calls Tryz.prog 14 #[.agg #[.string ⟨#[97,47,66]⟩,.string ⟨#[]⟩,.slice (some ⟨w.heap.size,0,none⟩) 1 1,.slice (some ⟨w.heap.size+1+1,0,none⟩) 1 1]] W0 (fun e w'=>∃x:KF,e= .returned (.tuple #[.agg x.cells.toArray,.int .i64 0])∧x.lp=fxL∧x.Rd w'∧x.Fit∧Below W0.heap.size W0 w')):=by
  refine Lib.hid (HLO.out.mono ?_);rintro e w' ⟨x,h1,h2,-,h4⟩;obtain⟨h5,h6,h7⟩:=h2 rfl;exact⟨x,h1,h5.trans (D6e _ _ _ _ _ _),h6,h7,h4⟩
 clear HLO;have k0:W0.cell? ⟨w.heap.size+1+1+1,0,none⟩=some (.string ⟨#[97,47,66]⟩):=A0a HG.out 0 rfl
 have k1:W0.cell? ⟨w.heap.size+1+1+1,1,none⟩=some (.string ⟨#[]⟩):=A0a HG.out 1 rfl
 have k2:W0.cell? ⟨w.heap.size+1+1+1,2,none⟩=some (.slice (some ⟨w.heap.size,0,none⟩) 1 1):=A0a HG.out 2 rfl
 have k3:W0.cell? ⟨w.heap.size+1+1+1,3,none⟩=some (.slice (some ⟨w.heap.size+1+1,0,none⟩) 1 1):=A0a HG.out 3 rfl
 go_wp2_with fail
 clear k0 k1 k2 k3;refine HLN.out.mono ?_;clear HLN;rintro e w1 ⟨x,rfl,hxl,hxr,hxf,hb1⟩;have HB1:=Lib.hid (HB0.out.trans (hb1.mono HB0.out.size));have HG1:=Lib.hid (A0c HG.out hb1)
 have HU1:=Lib.hid (HU.out.below hb1);clear hb1 HB0 HG HU;obtain⟨hlc,hlv⟩:=D5z x hxl;have HLC:=Lib.hid hlc;have HLV:=Lib.hid hlv;clear hxl hlc hlv
 have hal:Below w1.heap.size w1 (w1.alloc (.cells x.cells.toArray 26)):=A0e _ _;have hra:=heap_alloc_last w1 (.cells x.cells.toArray 26)
 have HLI:=Lib.hid (B5n (w1.alloc (.cells x.cells.toArray 26)) x (hxr.below hal) hxf (HV.out.below (HB1.out.trans (hal.mono HB1.out.size))) (B1n hxr hxf))
 have HB2:=Lib.hid (HB1.out.trans (hal.mono HB1.out.size));have HG2:=Lib.hid (A0c HG1.out hal);have HU2:=Lib.hid (HU1.out.below hal)
 have c0:(w1.alloc (.cells x.cells.toArray 26)).cell? ⟨w1.heap.size,0,none⟩=some (.slice x.pa x.pn x.pc):=A0a hra 0 rfl
 have c1:(w1.alloc (.cells x.cells.toArray 26)).cell? ⟨w1.heap.size,1,none⟩=some (.int .i64 x.th):=A0a hra 1 rfl
 have c2:(w1.alloc (.cells x.cells.toArray 26)).cell? ⟨w1.heap.size,2,none⟩=some (.int .i64 x.su):=A0a hra 2 rfl
 have c3:(w1.alloc (.cells x.cells.toArray 26)).cell? ⟨w1.heap.size,3,none⟩=some (.slice x.fa x.fn x.fc):=A0a hra 3 rfl
 have c4:(w1.alloc (.cells x.cells.toArray 26)).cell? ⟨w1.heap.size,4,none⟩=some (.slice x.ma x.mn x.mc):=A0a hra 4 rfl;clear hal hra hxr hxf HB1 HG1 HU1
 obtain⟨pa,pn,pc,pool,th,su,fa,fn,fc,fields,ma,mn,mc,methods⟩:=x;dsimp only[KF.cells]at*
 go_upto_region 3 with fail
 generalize w1.alloc (.cells #[.slice pa pn pc,.int .i64 th,.int .i64 su,.slice fa fn fc,.slice ma mn mc] 26)=W2 at*
 go_wp2_with fail
 clear c0 c1 c2 c3 c4;refine HLI.out.mono ?_;clear HLI;rintro e w2 ⟨v,er,rfl,h1,h2,-,-,ho,hb2⟩;obtain rfl:er=0:=h1.2 HLC.out;have HVP:=Lib.hid ((h2 rfl).trans HLV.out)
 have hal:=A0e w2 (.cells v.cells.toArray A1y);have hbv:=hb2.trans (hal.mono hb2.size);have HB3:=Lib.hid (HB2.out.trans (hbv.mono HB2.out.size));have HG3:=Lib.hid (A0c HG2.out hbv)
 have HU3:=Lib.hid (HU2.out.below hbv);have HVR:=Lib.hid (ho.rd.below hal);have HVG:=Lib.hid (heap_alloc_last w2 (.cells v.cells.toArray A1y));obtain⟨g4,hg4⟩:∃g,g=w2.heap.size:=⟨_,rfl⟩
 clear h1 h2 ho hb2 hal hbv HB2 HG2 HU2 HLC HLV;obtain⟨nm2,su2,fa2,fn2,fc2,fields2,ma2,mn2,mc2,methods2⟩:=v;dsimp only[UU.cells]at*
 go_upto_region 4 with fail
 generalize w2.alloc (.cells #[.string ⟨nm2.toArray⟩,.string ⟨su2.toArray⟩,.slice fa2 fn2 fc2,.slice ma2 mn2 mc2] A1y)=W3 at*;rw[←hg4]at HVG⊢;clear hg4
 have HLZ:=Lib.hid (B5n W3 zf (E0n _) D5q (HV.out.below HB3.out) (fun i=>B1n (E0n W3) D5q i));dsimp only[zf]at HLZ
 go_wp2_with fail
 refine HLZ.out.mono ?_;clear HLZ;rintro e w3 ⟨z,er,rfl,-,-,-,h8,-,hb3⟩;obtain rfl:er=8:=h8 E0y;have hal:=A0e w3 (.cells z.cells.toArray A1y);have hbv:=hb3.trans (hal.mono hb3.size)
 have HB4:=Lib.hid (HB3.out.trans (hbv.mono HB3.out.size));have HG4:=Lib.hid (A0c HG3.out hbv);have HU4:=Lib.hid (HU3.out.below hbv);have HVR4:=Lib.hid (HVR.out.below hbv)
 have HVG4:=Lib.hid (A0c HVG.out hbv);clear h8 hb3 hal hbv HB3 HG3 HU3 HVR HVG;obtain⟨nm3,su3,fa3,fn3,fc3,fields3,ma3,mn3,mc3,methods3⟩:=z;dsimp only[UU.cells]at*
 go_upto_region 5 with fail
 generalize w3.alloc (.cells #[.string ⟨nm3.toArray⟩,.string ⟨su3.toArray⟩,.slice fa3 fn3 fc3,.slice ma3 mn3 mc3] A1y)=W4 at*;have HLE:=Lib.hid (B6k W4 u0 (E0d _) D5k (HV.out.below HB4.out))
 unfold C4a at HLE;rw[D9a]at HLE;dsimp only[u0,UU.cells]at HLE
 go_wp2_with fail
 refine HLE.out.mono ?_;clear HLE;rintro e w4 ⟨z,rfl,-,h8,hb3⟩;obtain rfl:=h8 (by decide);have hal:=A0e w4 (.cells #[.slice none 0 0,.int .i64 0,.int .i64 0,.slice none 0 0,.slice none 0 0] 26)
 have hbv:=hb3.trans (hal.mono hb3.size);have HB5:=Lib.hid (HB4.out.trans (hbv.mono HB4.out.size));have HG5:=Lib.hid (A0c HG4.out hbv);have HU5:=Lib.hid (HU4.out.below hbv)
 have HVR5:=Lib.hid (HVR4.out.below hbv);have HVG5:=Lib.hid (A0c HVG4.out hbv);clear h8 hb3 hal hbv HB4 HG4 HU4 HVR4 HVG4;dsimp only[KF.cells]
 go_upto_region 6 with fail
 generalize w4.alloc (.cells #[.slice none 0 0,.int .i64 0,.int .i64 0,.slice none 0 0,.slice none 0 0] 26)=W5 at*
 have HSA:=Lib.hid (B5m W5 _ _ HU5.out HVR5.out (by rw[HVP.out];rfl) (D0s _ _ _ _ _ _));dsimp only[fxU,UU.cells]at HSA
 have HI1:=Lib.hid (fun(W:World) (h:Below W5.heap.size W5 W)=>A5m W [97,36] (by decide) (HV.out.below (HB5.out.trans (h.mono HB5.out.size))))
 have HI2:=Lib.hid (fun(W:World) (h:Below W5.heap.size W5 W)=>A5m W [97,47,98] (by decide) (HV.out.below (HB5.out.trans (h.mono HB5.out.size))));rw[show A7v [97,36]=true by kernel_rfl]at HI1
 rw[show A7v [97,47,98]=false by kernel_rfl]at HI2;have k0:W5.cell? ⟨w.heap.size+1+1+1,0,none⟩=some (.string ⟨#[97,47,66]⟩):=A0a HG5.out 0 rfl
 have k1:W5.cell? ⟨w.heap.size+1+1+1,1,none⟩=some (.string ⟨#[]⟩):=A0a HG5.out 1 rfl
 have k2:W5.cell? ⟨w.heap.size+1+1+1,2,none⟩=some (.slice (some ⟨w.heap.size,0,none⟩) 1 1):=A0a HG5.out 2 rfl
 have k3:W5.cell? ⟨w.heap.size+1+1+1,3,none⟩=some (.slice (some ⟨w.heap.size+1+1,0,none⟩) 1 1):=A0a HG5.out 3 rfl
 have c0:W5.cell? ⟨g4,0,none⟩=some (.string ⟨nm2.toArray⟩):=A0a HVG5.out 0 rfl;have c1:W5.cell? ⟨g4,1,none⟩=some (.string ⟨su2.toArray⟩):=A0a HVG5.out 1 rfl
 have c2:W5.cell? ⟨g4,2,none⟩=some (.slice fa2 fn2 fc2):=A0a HVG5.out 2 rfl;have c3:W5.cell? ⟨g4,3,none⟩=some (.slice ma2 mn2 mc2):=A0a HVG5.out 3 rfl
 go_wp2_with fail
 clear k0 k1 k2 k3 c0 c1 c2 c3;refine HSA.out.mono ?_;clear HSA;rintro e w5 ⟨rfl,hb5⟩
 go_wp2_with fail
 refine(HI1.out _ hb5).mono ?_;rintro e w6 ⟨rfl,hb6⟩;have hb56:=hb5.trans (hb6.mono hb5.size)
 go_wp2_with fail
 refine(HI2.out _ hb56).mono ?_;rintro e w7 ⟨rfl,hb7⟩;have hb57:=hb56.trans (hb7.mono hb56.size)
 go_wp2_with fail
 go_ret;exact⟨rfl,HB5.out.trans (hb57.mono HB5.out.size)⟩
end
end Go.Proofs.YtclpkipaehpkdaaGreatDoor
