/- asm -/
import Derived.Test.YtclpkipaehpkdaaGreatDoorQ23AsmMade
set_option linter.unusedVariables false
set_option linter.unusedSimpArgs false
set_option maxRecDepth 100000
set_option maxHeartbeats 64000000
namespace Go.Proofs.YtclpkipaehpkdaaGreatDoor
section
open Go.ChangeShapes Go.WideShapes Go.ChangeAt Go.RowKit Go.Maps
theorem C5m(w:World)(B q g:Nat)(s:WX)(hw:WrS w B q g s)(hi:B4u s)(hl:Lim 1 s)(hB:B<=w.heap.size):
  Calls Tryz.prog 126 #[.pointer (some ⟨g,0,none⟩)] w (A9y w B q g s 5 0 0 1):=by
 have HLM:=hzz hl;have HLW:=hzz (Nat.le_refl 0);have HPT:=hzz (show B0j s<=100000 from by have:=hl.up;omega);have HM0:=hzz (Ms.zero hw hi (A0z.refl B q w) hB);have t0:=HM0.out.t
 have lt0:=HM0.out.lt;clear hw hi hl hB;go_enter Tryz.func126,Tryz.ntmps126;have HC:=hzz (HM0.out.next 5 (by omega) (by omega))
 go_wp2_with fail
 refine HC.out.mono ?_;rintro e w1 ⟨r,rfl,hr,hm,hk⟩;have HM1:=hzz hm;clear HC hm hk HM0 t0 lt0;have t1:=HM1.out.t;have lt1:=HM1.out.lt;have hc:r=0\/r=1\/r=2\/r=3\/r=4:=by omega
 rcases hc with rfl|rfl|rfl|rfl|rfl
 ·clear hr;have HC:=hzz (HM1.out.op 1 0 1 (A4g (by decide)) (by show A0w (A0g 1)<=1;decide) (by have:=HPT.out;have:=HLW.out;omega))
  go_wp2_with fail
  refine HC.out.mono ?_;rintro e w2 ⟨rfl,hm⟩;have HM2:=hzz hm;clear HC hm HM1 t1 lt1;have t2:=HM2.out.t;have lt2:=HM2.out.lt
  go_wp2_with fail
  go_end0;exact⟨rfl,HM2.out.mono (show _<=_ by omega) nlz nlz (show 1<=_ by omega)⟩
 ·clear hr;obtain⟨sA,hA⟩:=HM1.out;have HA:=hzz hA;obtain⟨ca,cc,ta,tc,ma,mc,hx⟩:=hA.wr;have HX:=hzz hx;obtain⟨c0,c1,c2,c3,c4,c5,f1,f2,f3,f4,f5,lt⟩:=hx.box
  have hlen:=hA.len (by have:=HPT.out;have:=HLW.out;omega);have HBB:=hzz hA.hB;clear hA hx c2 c3 c4 c5 f2 f3 f4 f5 t1 lt1 HM1
  go_wp2_with (at_builtin;refine A0q A6d rfl _ _ rfl B _ sA.code.length _ rfl HX.out.code _ 1 _ _ rfl rfl rfl rfl (by omega) (by unfold maxLen;omega) HBB.out ?_;intro v9 w9 hown9 hg9 hb9;have hown8:w9.ownsRow B A2e 7 v9 (sA.code.length+1) ((sA.code++[(⟨187,0,0,[66],[],[],[]⟩:IN)]).flatMap IN.cells):=(by rw[List.flatMap_append];exact hown9);obtain⟨a9,c9,rfl,-,-⟩:=Ss.ofOwn IN.cells_length (by decide) hown8;have HAP:=hzz (HX.out.app hg9 hown8);have fo:=A0n HAP.out.2.2 1;have lto:=A0r HAP.out.2.2;have co:=A0a HAP.out.2.2 1 rfl;clear hown9 hown8 hg9 hb9 c0 c1 f1 lt)
  have hm:=HA.out.appd (x:=⟨187,0,0,[66],[],[],[]⟩) (fun l=>A2u l _ (by decide)) HAP.out.1 HAP.out.2.1;have HM2:=hzz hm;clear hm HA HX HBB hlen;go_end0
  exact⟨rfl,HM2.out.mono (show _<=_ by omega) nlz nlz (show 1<=_ by omega)⟩
 ·clear hr;have HC:=hzz (HM1.out.op 25 5 2 (A1v (by decide) (by omega)) (by show A0w (A0g 25)<=2;decide) (by have:=HPT.out;have:=HLW.out;omega))
  go_wp2_with fail
  refine HC.out.mono ?_;rintro e w2 ⟨rfl,hm⟩;have HM2:=hzz hm;clear HC hm HM1 t1 lt1;have t2:=HM2.out.t;have lt2:=HM2.out.lt;obtain⟨sA,hA⟩:=HM2.out;have HA:=hzz hA
  obtain⟨ca,cc,ta,tc,ma,mc,hx⟩:=hA.wr;have HX:=hzz hx;obtain⟨c0,c1,c2,c3,c4,c5,f1,f2,f3,f4,f5,lt⟩:=hx.box;have hlen:=hA.len (by have:=HPT.out;have:=HLW.out;omega)
  have HBB:=hzz hA.hB;clear hA hx c2 c3 c4 c5 f2 f3 f4 f5 t2 lt2 HM2
  go_wp2_with (at_builtin;refine A0q A6d rfl _ _ rfl B _ sA.code.length _ rfl HX.out.code _ 1 _ _ rfl rfl rfl rfl (by omega) (by unfold maxLen;omega) HBB.out ?_;intro v9 w9 hown9 hg9 hb9;have hown8:w9.ownsRow B A2e 7 v9 (sA.code.length+1) ((sA.code++[(⟨192,0,0,[66],[],[],[]⟩:IN)]).flatMap IN.cells):=(by rw[List.flatMap_append];exact hown9);obtain⟨a9,c9,rfl,-,-⟩:=Ss.ofOwn IN.cells_length (by decide) hown8;have HAP:=hzz (HX.out.app hg9 hown8);have fo:=A0n HAP.out.2.2 1;have lto:=A0r HAP.out.2.2;have co:=A0a HAP.out.2.2 1 rfl;clear hown9 hown8 hg9 hb9 c0 c1 f1 lt)
  have hm:=HA.out.appd (x:=⟨192,0,0,[66],[],[],[]⟩) (fun l=>A2u l _ (by decide)) HAP.out.1 HAP.out.2.1;have HM3:=hzz hm;clear hm HA HX HBB hlen;go_end0
  exact⟨rfl,HM3.out.mono (show _<=_ by omega) nlz nlz (show 1<=_ by omega)⟩
 ·clear hr;obtain⟨sA,hA⟩:=HM1.out;have HA:=hzz hA;obtain⟨ca,cc,ta,tc,ma,mc,hx⟩:=hA.wr;have HX:=hzz hx;obtain⟨c0,c1,c2,c3,c4,c5,f1,f2,f3,f4,f5,lt⟩:=hx.box
  have hlen:=hA.len (by have:=HPT.out;have:=HLW.out;omega);have HBB:=hzz hA.hB;clear hA hx c2 c3 c4 c5 f2 f3 f4 f5 t1 lt1 HM1
  go_wp2_with (at_builtin;refine A0q A6d rfl _ _ rfl B _ sA.code.length _ rfl HX.out.code _ 1 _ _ rfl rfl rfl rfl (by omega) (by unfold maxLen;omega) HBB.out ?_;intro v9 w9 hown9 hg9 hb9;have hown8:w9.ownsRow B A2e 7 v9 (sA.code.length+1) ((sA.code++[(⟨187,0,0,[65],[],[],[]⟩:IN)]).flatMap IN.cells):=(by rw[List.flatMap_append];exact hown9);obtain⟨a9,c9,rfl,-,-⟩:=Ss.ofOwn IN.cells_length (by decide) hown8;have HAP:=hzz (HX.out.app hg9 hown8);have fo:=A0n HAP.out.2.2 1;have lto:=A0r HAP.out.2.2;have co:=A0a HAP.out.2.2 1 rfl;clear hown9 hown8 hg9 hb9 c0 c1 f1 lt)
  have hm:=HA.out.appd (x:=⟨187,0,0,[65],[],[],[]⟩) (fun l=>A2u l _ (by decide)) HAP.out.1 HAP.out.2.1;have HM2:=hzz hm;clear hm HA HX HBB hlen;go_end0
  exact⟨rfl,HM2.out.mono (show _<=_ by omega) nlz nlz (show 1<=_ by omega)⟩
 clear hr;obtain⟨sA,hA⟩:=HM1.out;have HA:=hzz hA;obtain⟨ca,cc,ta,tc,ma,mc,hx⟩:=hA.wr;have HX:=hzz hx;obtain⟨c0,c1,c2,c3,c4,c5,f1,f2,f3,f4,f5,lt⟩:=hx.box
 have hlen:=hA.len (by have:=HPT.out;have:=HLW.out;omega);have HBB:=hzz hA.hB;clear hA hx c2 c3 c4 c5 f2 f3 f4 f5 t1 lt1 HM1
 go_wp2_with (at_builtin;refine A0q A6d rfl _ _ rfl B _ sA.code.length _ rfl HX.out.code _ 1 _ _ rfl rfl rfl rfl (by omega) (by unfold maxLen;omega) HBB.out ?_;intro v9 w9 hown9 hg9 hb9;have hown8:w9.ownsRow B A2e 7 v9 (sA.code.length+1) ((sA.code++[(⟨187,0,0,[65],[],[],[]⟩:IN)]).flatMap IN.cells):=(by rw[List.flatMap_append];exact hown9);obtain⟨a9,c9,rfl,-,-⟩:=Ss.ofOwn IN.cells_length (by decide) hown8;have HAP:=hzz (HX.out.app hg9 hown8);have fo:=A0n HAP.out.2.2 1;have lto:=A0r HAP.out.2.2;have co:=A0a HAP.out.2.2 1 rfl;clear hown9 hown8 hg9 hb9 c0 c1 f1 lt)
 have hm:=HA.out.appd (x:=⟨187,0,0,[65],[],[],[]⟩) (fun l=>A2u l _ (by decide)) HAP.out.1 HAP.out.2.1;have HM2:=hzz hm;clear hm HA HX HBB hlen;go_end0
 exact⟨rfl,HM2.out.mono (show _<=_ by omega) nlz nlz (show 1<=_ by omega)⟩
theorem C2v(HI:Hid (B2z 1))(w:World)(B q g:Nat)(s:WX)(hw:WrS w B q g s)(hi:B4u s)(hl:Lim 8 s)(hB:B<=w.heap.size):
  Calls Tryz.prog 130 #[.pointer (some ⟨g,0,none⟩)] w (A9y w B q g s 8 0 0 1):=by
 have HLM:=hzz hl;have HLW:=hzz (Nat.le_refl 0);have HPT:=hzz (show B0j s<=100000 from by have:=hl.up;omega);have HM0:=hzz (Ms.zero hw hi (A0z.refl B q w) hB);have t0:=HM0.out.t
 have lt0:=HM0.out.lt;clear hw hi hl hB;go_enter Tryz.func130,Tryz.ntmps130;have HC:=hzz (HM0.out.next 4 (by omega) (by omega))
 go_wp2_with fail
 refine HC.out.mono ?_;rintro e w1 ⟨r,rfl,hr,hm,hk⟩;have HM1:=hzz hm;clear HC hm hk HM0 t0 lt0;have t1:=HM1.out.t;have lt1:=HM1.out.lt;have hc:r=0\/r=1\/r=2\/r=3:=by omega
 rcases hc with rfl|rfl|rfl|rfl
 ·clear hr;have HC:=hzz (HM1.out.op 25 7 2 (A1v (by decide) (by omega)) (by show A0w (A0g 25)<=2;decide) (by have:=HPT.out;have:=HLW.out;omega))
  go_wp2_with fail
  refine HC.out.mono ?_;rintro e w2 ⟨rfl,hm⟩;have HM2:=hzz hm;clear HC hm HM1 t1 lt1;have t2:=HM2.out.t;have lt2:=HM2.out.lt
  have HC:=hzz (HM2.out.name 184 [115,121,115] [97,100,100] [40,91,66,41,73] (fun l=>A2u l _ (by decide)) (by have:=HPT.out;have:=HLW.out;omega))
  go_wp2_with fail
  refine HC.out.mono ?_;rintro e w3 ⟨rfl,hm⟩;have HM3:=hzz hm;clear HC hm HM2 t2 lt2;have t3:=HM3.out.t;have lt3:=HM3.out.lt
  have HC:=hzz (HM3.out.op 54 1 2 (A1v (by decide) (by omega)) (by show A0w (A0g 54)<=2;decide) (by have:=HPT.out;have:=HLW.out;omega))
  go_wp2_with fail
  refine HC.out.mono ?_;rintro e w4 ⟨rfl,hm⟩;have HM4:=hzz hm;clear HC hm HM3 t3 lt3;have t4:=HM4.out.t;have lt4:=HM4.out.lt
  go_wp2_with fail
  go_end0;exact⟨rfl,HM4.out.mono (show _<=_ by omega) nlz nlz (show 1<=_ by omega)⟩
 ·clear hr;have HC:=hzz (HM1.out.int HI.out 1 (by omega) (by omega) HLM.out (by omega))
  go_wp2_with fail
  refine HC.out.mono ?_;rintro e w2 ⟨rfl,hm⟩;have HM2:=hzz hm;clear HC hm HM1 t1 lt1;have t2:=HM2.out.t;have lt2:=HM2.out.lt
  have HC:=hzz (HM2.out.name 184 [115,121,115] [103,101,116] [40,73,41,91,66] (fun l=>A2u l _ (by decide)) (by have:=HPT.out;have:=HLW.out;omega))
  go_wp2_with fail
  refine HC.out.mono ?_;rintro e w3 ⟨rfl,hm⟩;have HM3:=hzz hm;clear HC hm HM2 t2 lt2;have t3:=HM3.out.t;have lt3:=HM3.out.lt
  have HC:=hzz (HM3.out.op 58 7 2 (A1v (by decide) (by omega)) (by show A0w (A0g 58)<=2;decide) (by have:=HPT.out;have:=HLW.out;omega))
  go_wp2_with fail
  refine HC.out.mono ?_;rintro e w4 ⟨rfl,hm⟩;have HM4:=hzz hm;clear HC hm HM3 t3 lt3;have t4:=HM4.out.t;have lt4:=HM4.out.lt
  go_wp2_with fail
  go_end0;exact⟨rfl,HM4.out.mono (show _<=_ by omega) nlz nlz (show 1<=_ by omega)⟩
 ·clear hr;have HC:=hzz (HM1.out.int HI.out 1 (by omega) (by omega) HLM.out (by omega))
  go_wp2_with fail
  refine HC.out.mono ?_;rintro e w2 ⟨rfl,hm⟩;have HM2:=hzz hm;clear HC hm HM1 t1 lt1;have t2:=HM2.out.t;have lt2:=HM2.out.lt
  have HC:=hzz (HM2.out.op 25 7 2 (A1v (by decide) (by omega)) (by show A0w (A0g 25)<=2;decide) (by have:=HPT.out;have:=HLW.out;omega))
  go_wp2_with fail
  refine HC.out.mono ?_;rintro e w3 ⟨rfl,hm⟩;have HM3:=hzz hm;clear HC hm HM2 t2 lt2;have t3:=HM3.out.t;have lt3:=HM3.out.lt
  have HC:=hzz (HM3.out.name 184 [115,121,115] [115,101,116] [40,73,91,66,41,86] (fun l=>A2u l _ (by decide)) (by have:=HPT.out;have:=HLW.out;omega))
  go_wp2_with fail
  refine HC.out.mono ?_;rintro e w4 ⟨rfl,hm⟩;have HM4:=hzz hm;clear HC hm HM3 t3 lt3;have t4:=HM4.out.t;have lt4:=HM4.out.lt
  go_wp2_with fail
  go_end0;exact⟨rfl,HM4.out.mono (show _<=_ by omega) nlz nlz (show 1<=_ by omega)⟩
 clear hr;have HC:=hzz (HM1.out.name 184 [115,121,115] [99,111,117,110,116] [40,41,73] (fun l=>A2u l _ (by decide)) (by have:=HPT.out;have:=HLW.out;omega))
 go_wp2_with fail
 refine HC.out.mono ?_;rintro e w2 ⟨rfl,hm⟩;have HM2:=hzz hm;clear HC hm HM1 t1 lt1;have t2:=HM2.out.t;have lt2:=HM2.out.lt
 have HC:=hzz (HM2.out.op 54 1 2 (A1v (by decide) (by omega)) (by show A0w (A0g 54)<=2;decide) (by have:=HPT.out;have:=HLW.out;omega))
 go_wp2_with fail
 refine HC.out.mono ?_;rintro e w3 ⟨rfl,hm⟩;have HM3:=hzz hm;clear HC hm HM2 t2 lt2;have t3:=HM3.out.t;have lt3:=HM3.out.lt
 go_wp2_with fail
 go_end0;exact⟨rfl,HM3.out.mono (show _<=_ by omega) nlz nlz (show 1<=_ by omega)⟩
theorem D9i(L:List Nat)(h:L.all (fun op=>decide (op<256/\op≠18/\op≠20/\A0g op=7))=true)(o:Nat)(ho:o∈L):decide (o<256/\o≠18/\o≠20/\A0g o=7)=true:=List.all_eq_true.1 h o ho
theorem D5y:D1s.all (fun t=>slM.contains t)=true:=by decide
theorem A7m(c:Nat)(la:Option Addr)(ln lc:Nat)(sa:Option Addr)(sn sc:Nat)(stk:List (List UInt8))(h:∀t∈stk,slM.contains t=true)(hl:stk.length<=64):MpM c ⟨(c:Nat),la,ln,lc,D1s,sa,sn,sc,stk⟩:=
 ⟨⟨Int.natCast_nonneg _,Int.le_refl _⟩,fun t ht=>List.all_eq_true.1 D5y t ht,h,(show D1s.length<=64 by decide),hl⟩
structure MpB(n:Nat)(s:WX):Prop where
 m:s.maps.length+2*s.bd.toNat+n<=90000
 t:s.traps.length+s.bd.toNat+n<=90000
theorem MpB.step{k kt km n m j:Nat}{s t:WX}(h:MpB n s)(g:StX k kt km j s t)(h1:km+m<=n)(h2:kt+m<=n):MpB m t:=by
 have:=h.m;have:=h.t;have:=g.m;have:=g.t;exact⟨by omega,by omega⟩
theorem MpB.weak{n m:Nat}{s:WX}(h:MpB n s)(h1:m<=n):MpB m s:=by
 have:=h.m;have:=h.t;exact⟨by omega,by omega⟩
theorem MpB.dec{n:Nat}{s:WX}(h:MpB n s):MpB n s.dec:=by
 have:=h.m;have:=h.t;unfold WX.dec;exact⟨by dsimp only;omega,by dsimp only;omega⟩
def B9e(j:Nat):Prop:=∀(w:World) (B q g:Nat) (s:WX),2-(j:Int)<=s.dp->s.dp<=2->WrS w B q g s->B4u s->Lim (22+10*j) s->MpB (10*j+5) s->B<=w.heap.size->
 Calls Tryz.prog 160 #[.pointer (some ⟨g,0,none⟩)] w (A9y w B q g s 15 0 0 0)
theorem MsX.lens{w0 w:World}{B q g:Nat}{s0 s:WX}{k kt km n:Nat}(h:MsX w0 B q g s0 k kt km n w s)(hp:B0j s0+k<=150000)(hm:s0.maps.length+2*s0.bd.toNat+km<=150000):s.code.length<=200000/\s.maps.length<=200000:=by
 have:=h.st.m;exact⟨h.len hp,by omega⟩
theorem C9n{o:Nat}(h:decide (o<256/\o≠18/\o≠20/\A0g o=7)=true)(n:Int):A7w ⟨o,n,0,[],[],[],[]⟩=3:=by
 rw[decide_eq_true_eq]at h;unfold A7w;dsimp only;rw[h.2.2.2];rfl
theorem C6j(j:Nat)(HI:Hid (B2z 1))(HS:Hid (B9e j))(w:World)(B q g:Nat)(s:WX)(d1:2-(j:Int)<=s.dp)(d2:s.dp<=2)(hw:WrS w B q g s)(hi:B4u s)(hl:Lim (25+10*j) s)(hmp:MpB (10*j+8) s)(hB:B<=w.heap.size):
  Calls Tryz.prog 127 #[.pointer (some ⟨g,0,none⟩)] w (A9y w B q g s 39 0 2 1):=by
 have HLM:=hzz hl;have HLW:=hzz (Nat.le_refl 0);have HMP:=hzz hmp;have HMM:=hzz (show s.maps.length+2*s.bd.toNat<=100000 from by have:=hmp.m;omega);have HDP:=hzz (And.intro d1 d2)
 have HPT:=hzz (show B0j s<=100000 from by have:=hl.up;omega);have HM0:=hzz (Ms.zero hw hi (A0z.refl B q w) hB);have t0:=HM0.out.t;have lt0:=HM0.out.lt;clear hw hi hl hB hmp d1 d2
 go_enter Tryz.func127,Tryz.ntmps127;have HC:=hzz (HM0.out.int HI.out 1 (by omega) (by omega) HLM.out (by omega))
 go_wp2_with fail
 refine HC.out.mono ?_;rintro e w1 ⟨rfl,hm⟩;have HM1:=hzz hm;clear HC hm HM0 t0 lt0;have t1:=HM1.out.t;have lt1:=HM1.out.lt
 have HC:=hzz ((HM1.out.below (A0f w1 (.cells #[.int .u8 153,.int .u8 154,.int .u8 155,.int .u8 156,.int .u8 157,.int .u8 158] 5))).next 6 (by omega) (by omega))
 go_wp2_with fail
 refine HC.out.mono ?_;rintro e w2 ⟨r2,rfl,hr2,hm,hk⟩
 obtain⟨o2,ho2,hL2⟩:=A5v w1 w2 q [153,154,155,156,157,158] hk (by have:=HM1.out.q;omega) r2 (by simp only[List.length_cons,List.length_nil];omega);have HM2:=hzz hm
 have HTB:=hzz (D9i [153,154,155,156,157,158] (by decide) o2 hL2);clear HC hm hk HM1 t1 lt1 hL2;have t2:=HM2.out.t;have lt2:=HM2.out.lt;obtain⟨s1,h1⟩:=HM2.out;have H1:=hzz h1;clear h1 HM2
 obtain⟨i1,hi1⟩:=exz (s1.code.length);have HXi1:=hzz hi1;have HC:=hzz (A7y w2 B q g s1 o2 H1.out.wr (H1.out.len (by have:=HPT.out;omega)) H1.out.hB);rw[<-hi1]at HC;clear hi1
 go_wp2_with fail
 refine HC.out.mono ?_;rintro e w3 ⟨rfl,hsb,hkb⟩;obtain⟨s2,hs2⟩:=exz (s1.app ⟨o2,0,0,[],[],[],[]⟩);rw[<-hs2]at hsb
 have HA2:=hzz (show StX 3 0 0 1 s1 s2 from by
  rw[hs2]
  exact(StX.app H1.out.st.inv (B2x _ o2 0 HTB.out (by omega) (by have:=H1.out.len (by have:=HPT.out;omega);omega))).mono (A4a (c:=s1.code.length) (B2x _ o2 0 HTB.out (by omega) (by have:=H1.out.len (by have:=HPT.out;omega);omega))).2 nlz nlz nlz)
 have HQ2:=hzz hs2;have H2:=hzz (show MsX w B q g s 6 0 0 1 w3 s2 from⟨(H1.out.st.trans HA2.out).mono (by omega) (by omega) (by omega) (by omega),hsb,H1.out.kp.trans hkb,Nat.le_trans H1.out.hB hkb.size⟩)
 clear HC hsb hkb hs2;have t3:=(show Ms w B q g s 6 0 0 1 w3 from⟨_,H2.out⟩).t;have lt3:=(show Ms w B q g s 6 0 0 1 w3 from⟨_,H2.out⟩).lt;clear t2 lt2
 have HC:=hzz (HS.out w3 B q g s2 (by have:=H2.out.st.dp;have:=HDP.out.1;omega) (by have:=H2.out.st.dp;have:=HDP.out.2;omega) H2.out.wr H2.out.st.inv (HLM.out.step H2.out.st (by omega)) (HMP.out.step H2.out.st (by omega) (by omega)) H2.out.hB)
 go_wp2_with fail
 refine HC.out.mono ?_;rintro e w4 ⟨rfl,hm⟩;have t4:=hm.t;have lt4:=hm.lt;obtain⟨s3,h3⟩:=hm;have H3:=hzz h3;clear HC h3 t3 lt3
 have HPT3:=hzz (show B0j s2+15<=150000 from by have:=H2.out.st.w;have:=HPT.out;omega);obtain⟨i2,hi2⟩:=exz (s3.code.length);have HXi2:=hzz hi2
 have HC:=hzz (A7y w4 B q g s3 167 H3.out.wr (H3.out.len (by have:=HPT3.out;omega)) H3.out.hB);rw[<-hi2]at HC;clear hi2
 go_wp2_with fail
 refine HC.out.mono ?_;rintro e w5 ⟨rfl,hsb,hkb⟩;obtain⟨s4,hs4⟩:=exz (s3.app ⟨167,0,0,[],[],[],[]⟩);rw[<-hs4]at hsb
 have HA4:=hzz (show StX 3 0 0 1 s3 s4 from by
  rw[hs4]
  exact(StX.app H3.out.st.inv (B2x _ 167 0 (by decide) (by omega) (by have:=H3.out.len HPT3.out;omega))).mono (A4a (c:=s3.code.length) (B2x _ 167 0 (by decide) (by omega) (by have:=H3.out.len HPT3.out;omega))).2 nlz nlz nlz)
 have HQ4:=hzz hs4;have H4:=hzz (show MsX w3 B q g s2 18 0 0 1 w5 s4 from⟨(H3.out.st.trans HA4.out).mono (by omega) (by omega) (by omega) (by omega),hsb,H3.out.kp.trans hkb,Nat.le_trans H3.out.hB hkb.size⟩)
 clear HC hsb hkb hs4;have t5:=(show Ms w3 B q g s2 18 0 0 1 w5 from⟨_,H4.out⟩).t;have lt5:=(show Ms w3 B q g s2 18 0 0 1 w5 from⟨_,H4.out⟩).lt;clear t4 lt4
 have HIL4:=hzz (show i1<s4.code.length from by
  have:=H4.out.st.pre.length_le;rw[HQ2.out]at this;unfold WX.app at this;dsimp only at this;rw[List.length_append,List.length_singleton,<-HXi1.out]at this;omega)
 have HLEN4:=hzz (H4.out.lens (by have:=H2.out.st.w;have:=HPT.out;omega) (by have:=H2.out.st.m;have:=HMM.out;omega))
 go_upto_region 4 with fail
 obtain⟨ca,cc,ta,tc,ma,mc,hx⟩:=H4.out.wr;obtain⟨b,hb,hBb,hbl,hbc⟩:=A4w IN.cells_length hx.code i1 HIL4.out HIL4.out (by decide);subst hb;obtain⟨cn,hcn⟩:=exz (s4.code.length)
 have HCN:=hzz hcn;have hil:i1<cn:=by rw[hcn];exact HIL4.out
 have HX6:=hzz (hx.below (brz.drew));have HK6:=hzz (show A0z B q w5 w5.drew from A0z.of (brz.drew));have HB6:=hzz (show B<=w5.drew.heap.size from H4.out.hB)
 have hSw:SW g q (.slice (some ⟨b,0,none⟩) cn cc) w5.drew:=by
  have h:=A0a HX6.out.k 1 rfl;rw[<-hcn]at h;exact⟨h,A0a HX6.out.k 0 rfl⟩
 have l0:∀z,SW g q (.slice (some ⟨b,0,none⟩) cn cc) z->z.cell? ⟨g,1,none⟩=some (.slice (some ⟨b,0,none⟩) cn cc):=fun z h=>h.1
 clear hx hBb hbl hbc t5 lt5 hcn
 refine A0t (SW g q (.slice (some ⟨b,0,none⟩) cn cc)) 9 [(0,true),(1,true),(2,true),(3,true),(4,true),(5,true),(6,false),(7,true),(8,true)] (by kernel_rfl) (by kernel_rfl) (fun c a d v w h=>by cases d<;>exact h) ?_
 generalize w5.drew=W6 at*
 iterate 6
  refine A0d fun K hK=>tkF ?_
  go_simp
  try go_bits
  refine hK _ _ ?_;clear hK K
 refine A0d fun K hK=>alF ?_
 go_step;refine(A6p W6 B q g s4 (some ⟨b,0,none⟩) cc ta tc ma mc none 0 0 [] HX6.out (World.ownsRow_nil _ _ _ _) (HLEN4.out.1) (HLEN4.out.2) HB6.out).mono ?_;rintro e w7 ⟨he,s5,ma7,mc7,hcs,hx7,hk7⟩
 rw[<-HCN.out]at he;subst he;have HX7:=hzz hx7;have HK7:=hzz (HK6.out.trans hk7)
 have hcd:s5.code=s4.code:=by rcases hcs with rfl|⟨_,_,_,_,_,_,rfl⟩<;>rfl
 have HCD:=hzz hcd
 have HCS:=hzz (show StX 0 0 1 0 s4 s5 from by
  rcases hcs with rfl|⟨la,ln,lc,sa,sn,sc,rfl⟩
  ·exact(StX.refl H4.out.st.inv).mono nlz nlz (Nat.zero_le _) nlz
  exact StX.map H4.out.st.inv (A7m _ _ _ _ _ _ _ [] (fun t ht=>by cases ht) (Nat.zero_le _)))
 have hSx:SW g q (.slice (some ⟨b,0,none⟩) cn cc) w7:=by
  have h:=A0a hx7.k 1 rfl;rw[hcd,<-HCN.out]at h;exact⟨h,A0a hx7.k 0 rfl⟩
 clear hSw HX6 HK6 hk7 hcs hcd hx7;have hSw:=hSx;clear hSx;go_simp
 first|refine⟨hSw,hK _ _ ?_⟩|refine hK _ _ ?_
 clear hK K
 iterate 2
  refine A0d fun K hK=>tkF ?_
  go_simp
  try go_bits
  refine hK _ _ ?_;clear hK K
 have hil7:i1<s5.code.length:=by rw[HCD.out,<-HCN.out];exact hil
 obtain⟨b',hb',hBb',hbl',hbc'⟩:=A4w IN.cells_length HX7.out.code i1 hil7 hil7 (by decide)
 cases hb'
 have co:w7.cell? ⟨b,i1*7+1,none⟩=some (.int .i64 (s5.code[i1]).n):=hbc' 1 (by decide)
 have fo:w7.frozen? ⟨b,i1*7+1,none⟩=false:=by
  rcases HX7.out.code.2 with⟨h1,h2⟩|⟨g',cap,cur,hv,hb,hg,r⟩
  ·cases h1
  cases hv
  exact A0n hg _
 clear hBb' hbc';refine A1u (laF ?_);go_step;have HP:=hzz (HX7.out.setN i1 hil7 (cn:Nat));clear hSw l0 co fo hbl' HB6;generalize w7.setCell ⟨b,i1*7+1,none⟩ (.int .i64 (cn:Nat))=w6 at*
 obtain⟨s6,hs6⟩:∃s6:WX,s6={s5 with code:=s5.code.set i1 {s5.code[i1]with n:=(cn:Nat)} }:=⟨_,rfl⟩;have HQ6:=hzz hs6;rw[<-hs6]at HP
 have HE1:=hzz (show s5.code[i1]? =some ⟨o2,0,0,[],[],[],[]⟩from by
  rw[HCD.out];obtain⟨r,hr⟩:=H4.out.st.pre;rw[<-hr,HQ2.out];unfold WX.app;dsimp only;rw[List.append_assoc,List.getElem?_append_right (by rw[HXi1.out];exact Nat.le_refl _),HXi1.out,Nat.sub_self]
  rfl)
 have hy6:({s5.code[i1]with n:=(cn:Nat)}:IN)=⟨o2,(cn:Nat),0,[],[],[],[]⟩:=by
  have h:=HE1.out;rw[List.getElem?_eq_getElem hil7]at h;rw[Option.some.inj h]
 have HC5:=hzz (show s5.code.length=cn from by rw[HCD.out,HCN.out])
 have HS15:=hzz (show StX 21 0 1 2 s1 s5 from((HA2.out.trans (H3.out.st.trans HA4.out)).trans HCS.out).mono (by omega) (by omega) (by omega) (by omega))
 have HS16:=hzz (show StX 21 0 1 2 s1 s6 from by
  have h:=(StX.refl H1.out.st.inv).patch HS15.out i1 ⟨o2,0,0,[],[],[],[]⟩ ⟨o2,(cn:Nat),0,[],[],[],[]⟩ (by rw[HXi1.out];exact Nat.le_refl _) HE1.out (B2x _ o2 (cn:Nat) HTB.out (by rw[HC5.out];omega) (by have:=HLEN4.out.1;rw[HC5.out,HCN.out];omega)) (by rw[C9n HTB.out,C9n HTB.out])
  rw[HQ6.out,hy6];exact h.mono (by omega) (by omega) (by omega) (by omega))
 have HE2:=hzz (show i1≠i2/\s6.code[i2]? =some ⟨167,0,0,[],[],[],[]⟩from by
  have h12:i1<i2:=by
   have:=H3.out.st.pre.length_le;rw[HQ2.out]at this;unfold WX.app at this;dsimp only at this;rw[List.length_append,List.length_singleton,<-HXi1.out,<-HXi2.out]at this;omega
  refine⟨by omega,?_⟩;rw[HQ6.out];dsimp only;rw[List.getElem?_set_ne (by omega),HCD.out,HQ4.out];unfold WX.app;dsimp only
  rw[List.getElem?_append_right (by rw[HXi2.out];exact Nat.le_refl _),HXi2.out,Nat.sub_self];rfl)
 have HW6:=hzz (show WrS w6 B q g s6 from⟨_,_,_,_,_,_,HP.out.1⟩);have HK6:=hzz (((H2.out.kp.trans H4.out.kp).trans HK7.out).trans HP.out.2)
 have H6:=hzz (show MsX w B q g s 24 0 1 2 w6 s6 from⟨(H1.out.st.trans HS16.out).mono (by omega) (by omega) (by omega) (by omega),HW6.out,HK6.out,Nat.le_trans H4.out.hB (HK7.out.trans HP.out.2).size⟩)
 have HL6:=hzz (show s1.code.length<=i2 from by
  have h1:=H2.out.st.pre.length_le;have h2:=H3.out.st.pre.length_le;have h3:=HA2.out.pre.length_le;rw[HXi2.out];omega)
 clear hs6 hy6 HQ6 hil7 hil HP HW6 HK6 HC5 HS15 HE1 HCD HCN HCS HX7 HK7 HLEN4 HIL4 H4 HQ4 HA4 HXi2 H3 HPT3 HQ2 H2 HA2 HXi1;have t6:=(show Ms w B q g s 24 0 1 2 w6 from⟨_,H6.out⟩).t
 have lt6:=(show Ms w B q g s 24 0 1 2 w6 from⟨_,H6.out⟩).lt
 have HC:=hzz (HS.out w6 B q g s6 (by have:=H6.out.st.dp;have:=HDP.out.1;omega) (by have:=H6.out.st.dp;have:=HDP.out.2;omega) H6.out.wr H6.out.st.inv (HLM.out.step H6.out.st (by omega)) (HMP.out.step H6.out.st (by omega) (by omega)) H6.out.hB)
 go_wp2_with fail
 refine HC.out.mono ?_;rintro e w7 ⟨rfl,hm⟩;have t7:=hm.t;have lt7:=hm.lt;obtain⟨s7,h7⟩:=hm;have H7:=hzz h7;clear HC h7 t6 lt6
 have HIL7:=hzz (show i2<s7.code.length from by
  obtain⟨h1,_⟩:=gsz HE2.out.2;have:=H7.out.st.pre.length_le;omega)
 have HLEN7:=hzz (H7.out.lens (by have:=H6.out.st.w;have:=HPT.out;omega) (by have:=H6.out.st.m;have:=HMM.out;omega))
 go_upto_region 6 with fail
 obtain⟨ca,cc,ta,tc,ma,mc,hx⟩:=H7.out.wr;obtain⟨b,hb,hBb,hbl,hbc⟩:=A4w IN.cells_length hx.code i2 HIL7.out HIL7.out (by decide);subst hb;obtain⟨cn,hcn⟩:=exz (s7.code.length)
 have HCN:=hzz hcn;have hil:i2<cn:=by rw[hcn];exact HIL7.out
 have HX6:=hzz (hx.below (brz.drew));have HK6:=hzz (show A0z B q w7 w7.drew from A0z.of (brz.drew));have HB6:=hzz (show B<=w7.drew.heap.size from H7.out.hB)
 have hSw:SW g q (.slice (some ⟨b,0,none⟩) cn cc) w7.drew:=by
  have h:=A0a HX6.out.k 1 rfl;rw[<-hcn]at h;exact⟨h,A0a HX6.out.k 0 rfl⟩
 have l0:∀z,SW g q (.slice (some ⟨b,0,none⟩) cn cc) z->z.cell? ⟨g,1,none⟩=some (.slice (some ⟨b,0,none⟩) cn cc):=fun z h=>h.1
 clear hx hBb hbl hbc t7 lt7 hcn
 refine A0t (SW g q (.slice (some ⟨b,0,none⟩) cn cc)) 9 [(0,true),(1,true),(2,true),(3,true),(4,true),(5,true),(6,false),(7,true),(8,true)] (by kernel_rfl) (by kernel_rfl) (fun c a d v w h=>by cases d<;>exact h) ?_
 generalize w7.drew=W6 at*
 iterate 6
  refine A0d fun K hK=>tkF ?_
  go_simp
  try go_bits
  refine hK _ _ ?_;clear hK K
 refine A0d fun K hK=>alF ?_
 go_step;refine(A6p W6 B q g s7 (some ⟨b,0,none⟩) cc ta tc ma mc none 0 0 [] HX6.out (World.ownsRow_nil _ _ _ _) (HLEN7.out.1) (HLEN7.out.2) HB6.out).mono ?_;rintro e w7 ⟨he,s8,ma7,mc7,hcs,hx7,hk7⟩
 rw[<-HCN.out]at he;subst he;have HX7:=hzz hx7;have HK7:=hzz (HK6.out.trans hk7)
 have hcd:s8.code=s7.code:=by rcases hcs with rfl|⟨_,_,_,_,_,_,rfl⟩<;>rfl
 have HCD:=hzz hcd
 have HCS:=hzz (show StX 0 0 1 0 s7 s8 from by
  rcases hcs with rfl|⟨la,ln,lc,sa,sn,sc,rfl⟩
  ·exact(StX.refl H7.out.st.inv).mono nlz nlz (Nat.zero_le _) nlz
  exact StX.map H7.out.st.inv (A7m _ _ _ _ _ _ _ [] (fun t ht=>by cases ht) (Nat.zero_le _)))
 have hSx:SW g q (.slice (some ⟨b,0,none⟩) cn cc) w7:=by
  have h:=A0a hx7.k 1 rfl;rw[hcd,<-HCN.out]at h;exact⟨h,A0a hx7.k 0 rfl⟩
 clear hSw HX6 HK6 hk7 hcs hcd hx7;have hSw:=hSx;clear hSx;go_simp
 first|refine⟨hSw,hK _ _ ?_⟩|refine hK _ _ ?_
 clear hK K
 iterate 2
  refine A0d fun K hK=>tkF ?_
  go_simp
  try go_bits
  refine hK _ _ ?_;clear hK K
 have hil7:i2<s8.code.length:=by rw[HCD.out,<-HCN.out];exact hil
 obtain⟨b',hb',hBb',hbl',hbc'⟩:=A4w IN.cells_length HX7.out.code i2 hil7 hil7 (by decide)
 cases hb'
 have co:w7.cell? ⟨b,i2*7+1,none⟩=some (.int .i64 (s8.code[i2]).n):=hbc' 1 (by decide)
 have fo:w7.frozen? ⟨b,i2*7+1,none⟩=false:=by
  rcases HX7.out.code.2 with⟨h1,h2⟩|⟨g',cap,cur,hv,hb,hg,r⟩
  ·cases h1
  cases hv
  exact A0n hg _
 clear hBb' hbc';refine A1u (laF ?_);go_step;have HP:=hzz (HX7.out.setN i2 hil7 (cn:Nat));clear hSw l0 co fo hbl' HB6;generalize w7.setCell ⟨b,i2*7+1,none⟩ (.int .i64 (cn:Nat))=w8 at*
 have HE3:=hzz (show s8.code[i2]? =some ⟨167,0,0,[],[],[],[]⟩from by
  rw[HCD.out];obtain⟨r,hr⟩:=H7.out.st.pre;rw[<-hr];obtain⟨h1,h2⟩:=gsz HE2.out.2;rw[List.getElem?_append_left h1];exact HE2.out.2)
 have hy9:({s8.code[i2]with n:=(cn:Nat)}:IN)=⟨167,(cn:Nat),0,[],[],[],[]⟩:=by
  have h:=HE3.out;rw[List.getElem?_eq_getElem hil7]at h;rw[Option.some.inj h]
 have HC8:=hzz (show s8.code.length=cn from by rw[HCD.out,HCN.out])
 have HS9:=hzz (H1.out.st.patch ((HS16.out.trans H7.out.st).trans HCS.out) i2 ⟨167,0,0,[],[],[],[]⟩ ⟨167,(cn:Nat),0,[],[],[],[]⟩ HL6.out HE3.out (B2x _ 167 (cn:Nat) (by decide) (by rw[HC8.out];omega) (by have:=HLEN7.out.1;rw[HC8.out,HCN.out];omega)) rfl)
 rw[hy9]at HP;have HK9:=hzz (((H6.out.kp.trans H7.out.kp).trans HK7.out).trans HP.out.2);go_end0
 exact⟨rfl,_,HS9.out.mono (by omega) (by omega) (by omega) (by omega),⟨_,_,_,_,_,_,HP.out.1⟩,HK9.out,Nat.le_trans H7.out.hB (HK7.out.trans HP.out.2).size⟩
theorem B9g(c n:Nat)(m:Int)(hn:n<=255)(hm: -128<=m/\m<=127):MX c ⟨132,(n:Nat),m,[],[],[],[]⟩:=C1w c 132 (n:Nat) m 8 (by decide) (.inr rfl) (by omega) hm (by unfold A1h;simp;omega)
theorem D1z(j:Nat)(HS:Hid (B9e j))(w:World)(B q g:Nat)(s:WX)(d1:2-(j:Int)<=s.dp)(d2:s.dp<=2)(hw:WrS w B q g s)(hi:B4u s)(hl:Lim (25+10*j) s)(hmp:MpB (10*j+8) s)(hB:B<=w.heap.size):
  Calls Tryz.prog 128 #[.pointer (some ⟨g,0,none⟩)] w (A9y w B q g s 31 0 2 1):=by
 have HLM:=hzz hl;have HLW:=hzz (Nat.le_refl 0);have HMP:=hzz hmp;have HMM:=hzz (show s.maps.length+2*s.bd.toNat<=100000 from by have:=hmp.m;omega);have HDP:=hzz (And.intro d1 d2)
 have HPT:=hzz (show B0j s<=100000 from by have:=hl.up;omega);have HM0:=hzz (Ms.zero hw hi (A0z.refl B q w) hB);have t0:=HM0.out.t;have lt0:=HM0.out.lt;clear hw hi hl hB hmp d1 d2
 go_enter Tryz.func128,Tryz.ntmps128;have HC:=hzz (HM0.out.next 5 (by omega) (by omega))
 go_wp2_with fail
 refine HC.out.mono ?_;rintro e w1 ⟨r1,rfl,hr1,hm,hk⟩;have HM1:=hzz hm;clear HC hm HM0 t0 lt0 hk;have t1:=HM1.out.t;have lt1:=HM1.out.lt
 have HC:=hzz (HM1.out.number (r1:Nat) (by omega) (by have:=HPT.out;have:=HLW.out;omega))
 go_wp2_with fail
 refine HC.out.mono ?_;rintro e w2 ⟨rfl,hm⟩;have HM2:=hzz hm;clear HC hm HM1 t1 lt1;have t2:=HM2.out.t;have lt2:=HM2.out.lt
 have HC:=hzz (HM2.out.op 54 2 2 (A1v (by decide) (by omega)) (by show A0w (A0g 54)<=2;decide) (by have:=HPT.out;have:=HLW.out;omega))
 go_wp2_with fail
 refine HC.out.mono ?_;rintro e w3 ⟨rfl,hm⟩;have HM3:=hzz hm;clear HC hm HM2 t2 lt2;have t3:=HM3.out.t;have lt3:=HM3.out.lt;obtain⟨s1,h1⟩:=HM3.out;have H1:=hzz h1;clear h1 HM3
 have HLEN1:=hzz (H1.out.lens (by have:=HPT.out;omega) (by have:=HMM.out;omega));obtain⟨ca,cc,ta,tc,ma,mc,hx⟩:=H1.out.wr;obtain⟨top,htop⟩:=exz (s1.code.length);have HXtop:=hzz htop
 have HC:=hzz (A6p w3 B q g s1 ca cc ta tc ma mc none 0 0 [] hx (World.ownsRow_nil _ _ _ _) HLEN1.out.1 HLEN1.out.2 H1.out.hB);clear hx htop
 go_wp2_with fail
 refine HC.out.mono ?_;rintro e w4 ⟨he,s2,ma7,mc7,hcs,hx7,hk7⟩;rw[<-HXtop.out]at he;subst he
 have HCD2:=hzz (show s2.code=s1.code from by rcases hcs with rfl|⟨_,_,_,_,_,_,rfl⟩<;>rfl)
 have HA2:=hzz (show StX 0 0 1 0 s1 s2 from by
  rcases hcs with rfl|⟨la,ln,lc,sa,sn,sc,rfl⟩
  ·exact(StX.refl H1.out.st.inv).mono nlz nlz (Nat.zero_le _) nlz
  exact StX.map H1.out.st.inv (A7m _ _ _ _ _ _ _ [] (fun t ht=>by cases ht) (Nat.zero_le _)))
 have H2:=hzz (show MsX w B q g s 5 0 1 2 w4 s2 from⟨(H1.out.st.trans HA2.out).mono (by omega) (by omega) (by omega) (by omega),⟨_,_,_,_,_,_,hx7⟩,H1.out.kp.trans hk7,Nat.le_trans H1.out.hB hk7.size⟩)
 clear HC hcs hx7 hk7 t3 lt3;have t4:=(show Ms w B q g s 5 0 1 2 w4 from⟨_,H2.out⟩).t;have lt4:=(show Ms w B q g s 5 0 1 2 w4 from⟨_,H2.out⟩).lt
 have HM4:=hzz (Ms.zero H2.out.wr H2.out.st.inv (A0z.refl B q w4) H2.out.hB);have HPS:=HPT;clear HPT;have HPT:=hzz (show B0j s2<=100100 from by have:=H2.out.st.w;have:=HPS.out;omega)
 have HC:=hzz (HM4.out.op 21 2 2 (A1v (by decide) (by omega)) (by show A0w (A0g 21)<=2;decide) (by have:=HPT.out;have:=HLW.out;omega))
 go_wp2_with fail
 refine HC.out.mono ?_;rintro e w5 ⟨rfl,hm⟩;have HM5:=hzz hm;clear HC hm HM4 t4 lt4;have t5:=HM5.out.t;have lt5:=HM5.out.lt;obtain⟨sX,hX⟩:=HM5.out;have HX:=hzz hX;clear hX HM5;clear HPT
 have HPT:=HPS;clear HPS;obtain⟨s3,hs3⟩:=exz (sX);rw[<-hs3]at HX;clear hs3
 have H3:=hzz (show MsX w B q g s 7 0 1 3 w5 s3 from⟨(H2.out.st.trans HX.out.st).mono (by omega) (by omega) (by omega) (by omega),HX.out.wr,H2.out.kp.trans HX.out.kp,HX.out.hB⟩)
 have H3T:=hzz (show s1.code.length<=s3.code.length from by
  have:=HX.out.st.pre.length_le;rw[HCD2.out]at this;exact this)
 clear HX;obtain⟨i1,hi1⟩:=exz (s3.code.length);have HXi1:=hzz hi1;have HC:=hzz (A7y w5 B q g s3 158 H3.out.wr (H3.out.len (by have:=HPT.out;omega)) H3.out.hB);rw[<-hi1]at HC;clear hi1
 go_wp2_with fail
 refine HC.out.mono ?_;rintro e w6 ⟨rfl,hsb,hkb⟩;obtain⟨s4,hs4⟩:=exz (s3.app ⟨158,0,0,[],[],[],[]⟩);rw[<-hs4]at hsb
 have HA4:=hzz (show StX 3 0 0 1 s3 s4 from by
  rw[hs4]
  exact(StX.app H3.out.st.inv (B2x _ 158 0 (by decide) (by omega) (by have:=H3.out.len (by have:=HPT.out;omega);omega))).mono (A4a (c:=s3.code.length) (B2x _ 158 0 (by decide) (by omega) (by have:=H3.out.len (by have:=HPT.out;omega);omega))).2 nlz nlz nlz)
 have HQ4:=hzz hs4;have H4:=hzz (show MsX w B q g s 10 0 1 4 w6 s4 from⟨(H3.out.st.trans HA4.out).mono (by omega) (by omega) (by omega) (by omega),hsb,H3.out.kp.trans hkb,Nat.le_trans H3.out.hB hkb.size⟩)
 clear HC hsb hkb hs4;have t6:=(show Ms w B q g s 10 0 1 4 w6 from⟨_,H4.out⟩).t;have lt6:=(show Ms w B q g s 10 0 1 4 w6 from⟨_,H4.out⟩).lt;clear t5 lt5
 have HC:=hzz (HS.out w6 B q g s4 (by have:=H4.out.st.dp;have:=HDP.out.1;omega) (by have:=H4.out.st.dp;have:=HDP.out.2;omega) H4.out.wr H4.out.st.inv (HLM.out.step H4.out.st (by omega)) (HMP.out.step H4.out.st (by omega) (by omega)) H4.out.hB)
 go_wp2_with fail
 refine HC.out.mono ?_;rintro e w7 ⟨rfl,hm⟩;have t7:=hm.t;have lt7:=hm.lt;obtain⟨s5,h5⟩:=hm;have H5:=hzz h5;clear HC h5 t6 lt6;have HPS:=HPT;clear HPT
 have HPT:=hzz (show B0j s4<=110000 from by have:=H4.out.st.w;have:=HPS.out;omega);have HM7:=hzz (show Ms _ B q g _ _ _ _ _ w7 from⟨_,H5.out⟩);obtain⟨sA,hA⟩:=HM7.out;have HA:=hzz hA
 obtain⟨ca,cc,ta,tc,ma,mc,hx⟩:=hA.wr;have HX:=hzz hx;obtain⟨c0,c1,c2,c3,c4,c5,f1,f2,f3,f4,f5,lt⟩:=hx.box;have hlen:=hA.len (by have:=HPT.out;have:=HLW.out;omega)
 have HBB:=hzz hA.hB;clear hA hx c2 c3 c4 c5 f2 f3 f4 f5 t7 lt7 HM7
 go_upto_region 7 with(at_builtin;refine A0q A6d rfl _ _ rfl B _ sA.code.length _ rfl HX.out.code _ 1 _ _ rfl rfl rfl rfl (by omega) (by unfold maxLen;omega) HBB.out ?_;intro v9 w9 hown9 hg9 hb9;have hown8:w9.ownsRow B A2e 7 v9 (sA.code.length+1) ((sA.code++[(⟨132,2,-1,[],[],[],[]⟩:IN)]).flatMap IN.cells):=(by rw[List.flatMap_append];exact hown9);obtain⟨a9,c9,rfl,-,-⟩:=Ss.ofOwn IN.cells_length (by decide) hown8;have HAP:=hzz (HX.out.app hg9 hown8);have fo:=A0n HAP.out.2.2 1;have lto:=A0r HAP.out.2.2;have co:=A0a HAP.out.2.2 1 rfl;clear hown9 hown8 hg9 hb9 c0 c1 f1 lt)
 have hm:=HA.out.appd (x:=⟨132,2,-1,[],[],[],[]⟩) (fun l=>B9g l 2 (-1) (by omega) (by omega)) HAP.out.1 HAP.out.2.1;generalize w9.setCell ⟨g,1,none⟩ (.slice a9 (sA.code.length+1) c9)=w8 at*
 have HM8:=hzz hm;clear hm HA HX HBB HAP hlen fo lto co;have t8:=HM8.out.t;have lt8:=HM8.out.lt;obtain⟨s6,h6⟩:=HM8.out;have H6:=hzz h6;clear h6 HM8
 have HTP:=hzz (show top<=s6.code.length from by
  have h1:=H3T.out;have h2:=HA4.out.pre.length_le;have h3:=H6.out.st.pre.length_le;rw[HXtop.out];omega)
 have hg7:=B2x s6.code.length 167 (top:Nat) (by decide) ⟨Int.natCast_nonneg _,by have:=HTP.out;omega⟩ (by have:=H6.out.len (by have:=HPT.out;omega);omega)
 have HC:=hzz (B0h w8 B q g s6 167 (top:Nat) H6.out.wr (H6.out.len (by have:=HPT.out;omega)) H6.out.hB)
 go_wp2_with fail
 refine HC.out.mono ?_;rintro e w9 ⟨rfl,hsb,hkb⟩;obtain⟨s7,hs7⟩:=exz (s6.app ⟨167,(top:Nat),0,[],[],[],[]⟩);rw[<-hs7]at hsb
 have H7:=hzz (show MsX w6 B q g s4 21 0 0 2 w9 s7 from⟨by
  rw[hs7];exact(H6.out.st.trans (StX.app H6.out.st.inv hg7)).mono (by have:=(A4a hg7).2;omega) (by omega) (by omega) (by omega),hsb,H6.out.kp.trans hkb,Nat.le_trans H6.out.hB hkb.size⟩)
 clear HC hsb hkb hs7 hg7 t8 lt8;have t9:=(show Ms _ B q g _ _ _ _ _ w9 from⟨_,H7.out⟩).t;have lt9:=(show Ms _ B q g _ _ _ _ _ w9 from⟨_,H7.out⟩).lt
 have HIL7:=hzz (show i1<s7.code.length from by
  have:=H7.out.st.pre.length_le;rw[HQ4.out]at this;unfold WX.app at this;dsimp only at this;rw[List.length_append,List.length_singleton,<-HXi1.out]at this;omega)
 have HLEN7:=hzz (H7.out.lens (by have:=HPT.out;omega) (by have:=H4.out.st.m;have:=HMM.out;omega))
 go_upto_region 8 with fail
 obtain⟨ca,cc,ta,tc,ma,mc,hx⟩:=H7.out.wr;obtain⟨b,hb,hBb,hbl,hbc⟩:=A4w IN.cells_length hx.code i1 HIL7.out HIL7.out (by decide);subst hb;obtain⟨cn,hcn⟩:=exz (s7.code.length)
 have HCN:=hzz hcn;have hil:i1<cn:=by rw[hcn];exact HIL7.out
 have HX6:=hzz (hx.below (brz.drew));have HK6:=hzz (show A0z B q w9 w9.drew from A0z.of (brz.drew));have HB6:=hzz (show B<=w9.drew.heap.size from H7.out.hB)
 have hSw:SW g q (.slice (some ⟨b,0,none⟩) cn cc) w9.drew:=by
  have h:=A0a HX6.out.k 1 rfl;rw[<-hcn]at h;exact⟨h,A0a HX6.out.k 0 rfl⟩
 have l0:∀z,SW g q (.slice (some ⟨b,0,none⟩) cn cc) z->z.cell? ⟨g,1,none⟩=some (.slice (some ⟨b,0,none⟩) cn cc):=fun z h=>h.1
 clear hx hBb hbl hbc t9 lt9 hcn
 refine A0t (SW g q (.slice (some ⟨b,0,none⟩) cn cc)) 9 [(0,true),(1,true),(2,true),(3,true),(4,true),(5,true),(6,false),(7,true),(8,true)] (by kernel_rfl) (by kernel_rfl) (fun c a d v w h=>by cases d<;>exact h) ?_
 generalize w9.drew=W6 at*
 iterate 6
  refine A0d fun K hK=>tkF ?_
  go_simp
  try go_bits
  refine hK _ _ ?_;clear hK K
 refine A0d fun K hK=>alF ?_
 go_step;refine(A6p W6 B q g s7 (some ⟨b,0,none⟩) cc ta tc ma mc none 0 0 [] HX6.out (World.ownsRow_nil _ _ _ _) (HLEN7.out.1) (HLEN7.out.2) HB6.out).mono ?_;rintro e w7 ⟨he,s8,ma7,mc7,hcs,hx7,hk7⟩
 rw[<-HCN.out]at he;subst he;have HX7:=hzz hx7;have HK7:=hzz (HK6.out.trans hk7)
 have hcd:s8.code=s7.code:=by rcases hcs with rfl|⟨_,_,_,_,_,_,rfl⟩<;>rfl
 have HCD:=hzz hcd
 have HCS:=hzz (show StX 0 0 1 0 s7 s8 from by
  rcases hcs with rfl|⟨la,ln,lc,sa,sn,sc,rfl⟩
  ·exact(StX.refl H7.out.st.inv).mono nlz nlz (Nat.zero_le _) nlz
  exact StX.map H7.out.st.inv (A7m _ _ _ _ _ _ _ [] (fun t ht=>by cases ht) (Nat.zero_le _)))
 have hSx:SW g q (.slice (some ⟨b,0,none⟩) cn cc) w7:=by
  have h:=A0a hx7.k 1 rfl;rw[hcd,<-HCN.out]at h;exact⟨h,A0a hx7.k 0 rfl⟩
 clear hSw HX6 HK6 hk7 hcs hcd hx7;have hSw:=hSx;clear hSx;go_simp
 first|refine⟨hSw,hK _ _ ?_⟩|refine hK _ _ ?_
 clear hK K
 iterate 2
  refine A0d fun K hK=>tkF ?_
  go_simp
  try go_bits
  refine hK _ _ ?_;clear hK K
 have hil7:i1<s8.code.length:=by rw[HCD.out,<-HCN.out];exact hil
 obtain⟨b',hb',hBb',hbl',hbc'⟩:=A4w IN.cells_length HX7.out.code i1 hil7 hil7 (by decide)
 cases hb'
 have co:w7.cell? ⟨b,i1*7+1,none⟩=some (.int .i64 (s8.code[i1]).n):=hbc' 1 (by decide)
 have fo:w7.frozen? ⟨b,i1*7+1,none⟩=false:=by
  rcases HX7.out.code.2 with⟨h1,h2⟩|⟨g',cap,cur,hv,hb,hg,r⟩
  ·cases h1
  cases hv
  exact A0n hg _
 clear hBb' hbc';refine A1u (laF ?_);go_step;have HP:=hzz (HX7.out.setN i1 hil7 (cn:Nat));clear hSw l0 co fo hbl' HB6;generalize w7.setCell ⟨b,i1*7+1,none⟩ (.int .i64 (cn:Nat))=w10 at*
 have HE3:=hzz (show s8.code[i1]? =some ⟨158,0,0,[],[],[],[]⟩from by
  rw[HCD.out];obtain⟨r,hr⟩:=H7.out.st.pre;rw[<-hr,HQ4.out];unfold WX.app;dsimp only;rw[List.append_assoc,List.getElem?_append_right (by rw[HXi1.out];exact Nat.le_refl _),HXi1.out,Nat.sub_self]
  rfl)
 have hy9:({s8.code[i1]with n:=(cn:Nat)}:IN)=⟨158,(cn:Nat),0,[],[],[],[]⟩:=by
  have h:=HE3.out;rw[List.getElem?_eq_getElem hil7]at h;rw[Option.some.inj h]
 have HC8:=hzz (show s8.code.length=cn from by rw[HCD.out,HCN.out])
 have HS9:=hzz (H3.out.st.patch ((HA4.out.trans H7.out.st).trans HCS.out) i1 ⟨158,0,0,[],[],[],[]⟩ ⟨158,(cn:Nat),0,[],[],[],[]⟩ (by rw[HXi1.out];exact Nat.le_refl _) HE3.out (B2x _ 158 (cn:Nat) (by decide) (by rw[HC8.out];omega) (by have:=HLEN7.out.1;rw[HC8.out,HCN.out];omega)) rfl)
 rw[hy9]at HP;have HK9:=hzz (((H4.out.kp.trans H7.out.kp).trans HK7.out).trans HP.out.2);go_end0
 exact⟨rfl,_,HS9.out.mono (by omega) (by omega) (by omega) (by omega),⟨_,_,_,_,_,_,HP.out.1⟩,HK9.out,Nat.le_trans H7.out.hB (HK7.out.trans HP.out.2).size⟩
def tcM:List (List UInt8):=[[],[84,104,114,111,119,97,98,108,101],[77,97,116,104,70,97,117,108,116],[79,111,112,115],[78,117,108,108,70,97,117,108,116]]
theorem D7y:tcM.all (fun t=>decide (t=[])||(A1b t&&clM.contains t))=true:=by decide
theorem D9u:tcM.all (fun t=>slM.contains ([76]++(if t=[]then [84,104,114,111,119,97,98,108,101]else t)++[59]))=true:=by decide
theorem C9j(w w4:World)(q:Nat)(L:List (List UInt8))(hk:A1e q (w.alloc (.cells (L.map B0d).toArray 9)) w4)(hq:q<w.heap.size)(r:Nat)(hr:r<L.length):∃o:List UInt8,w4.cell? ⟨w.heap.size,r,none⟩=some (.string ⟨o.toArray⟩)/\o∈L:=by
 refine⟨L[r],?_,List.getElem_mem hr⟩
 have h:w4.heap[w.heap.size]? =some (.cells (L.map B0d).toArray 9 (0,0)):=by
  rw[hk.block w.heap.size (by simp) (by omega)];exact heap_alloc_last w _
 exact A0a h r (by simp[hr,B0d])
theorem D6r:slM.all (fun t=>decide (t.length<=12))=true:=by decide
theorem C8v(X Y:List UInt8):(⟨X.toArray⟩:ByteArray)++⟨Y.toArray⟩=⟨(X++Y).toArray⟩:=by
 apply ByteArray.ext;simp
def GuA(w:World)(B q g:Nat)(s:WX)(wx:World):Prop:=∃(sP:WX) (o:Nat),(o=0\/o=191)/\MsX w B q g s (if o=0 then 16 else 19) 0 0 1 wx (sP.app ⟨o,0,0,[],[],[],[]⟩)
def GuB(w:World)(B q g:Nat)(s:WX)(tn:Nat)(en:Value)(wx:World):Prop:=∃s3,MsX w B q g s 19 0 0 1 wx s3/\tn<=s3.code.length/\∃e:Int,en= .int .i64 e/\(e= -1\/∃i:Nat,e=(i:Nat)/\s.code.length<=i/\s3.code[i]? =some ⟨167,0,0,[],[],[],[]⟩)
def GuC(w:World)(B q g:Nat)(s:WX)(an:Nat)(wx:World):Prop:=∃s8,MsX w B q g s 35 0 2 2 wx s8/\s8.code.length=an
theorem C2h(j:Nat)(HS:Hid (B9e j))(w:World)(B q g:Nat)(s:WX)(d1:2-(j:Int)<=s.dp)(d2:s.dp<=2)(hw:WrS w B q g s)(hi:B4u s)(hl:Lim (25+10*j) s)(hmp:MpB (10*j+8) s)(hB:B<=w.heap.size):
  Calls Tryz.prog 129 #[.pointer (some ⟨g,0,none⟩)] w (A9y w B q g s 39 1 2 1):=by
 have HLM:=hzz hl;have HLW:=hzz (Nat.le_refl 0);have HMP:=hzz hmp;have HMM:=hzz (show s.maps.length+2*s.bd.toNat<=100000 from by have:=hmp.m;omega)
 have HTT:=hzz (show s.traps.length+s.bd.toNat<=100000 from by have:=hmp.t;omega);have HDP:=hzz (And.intro d1 d2);have HPT:=hzz (show B0j s<=100000 from by have:=hl.up;omega)
 obtain⟨fr,hfr⟩:=exz (s.code.length);have HFR:=hzz hfr;have HW0:=hzz hw;obtain⟨ca0,cc0,ta,tc,ma,mc,hx⟩:=hw;obtain⟨t0,c1,c2,c3,c4,c5,f1,f2,f3,f4,f5,lt0⟩:=hx.box;rw[<-hfr]at c1
 have HI0:=hzz hi;have HB0:=hzz hB;clear hx hi hl hB hmp d1 d2 c2 c3 c4 c5 f1 f2 f3 f4 f5 hfr;go_enter Tryz.func129,Tryz.ntmps129
 have HC:=hzz (HS.out w B q g s HDP.out.1 HDP.out.2 HW0.out HI0.out (by have:=HLM.out.up;have:=HLM.out.lo;exact⟨by omega,by omega⟩) (HMP.out.weak (by omega)) HB0.out)
 go_wp2_with fail
 refine HC.out.mono ?_;rintro e w1 ⟨rfl,hm⟩;have HM1:=hzz hm;clear HC hm t0 c1 lt0 HW0 HB0 ta tc ma mc;have t1:=HM1.out.t;have lt1:=HM1.out.lt
 go_upto_region 3 with fail
 have HC:=hzz (HM1.out.next 3 (by omega) (by omega))
 go_wp2_with fail
 refine HC.out.mono ?_;rintro e w2 ⟨r1,rfl,hr1,hm,hk⟩;have HM2:=hzz hm;clear HC hm HM1 t1 lt1 hk;have t2:=HM2.out.t;have lt2:=HM2.out.lt;obtain⟨b1,hb1⟩:∃b1,((r1:Int)==1)=b1:=⟨_,rfl⟩
 go_upto_if 21 with fail
 go_cut [] (fun wx=>GuA w B q g s wx)
 case first=>
  cases b1
  ·clear hb1 hr1;obtain⟨s2,h2⟩:=HM2.out;have H2:=hzz h2;clear h2 HM2;have HC:=hzz (B0h w2 B q g s2 0 0 H2.out.wr (H2.out.len (by have:=HPT.out;omega)) H2.out.hB)
   go_wp2_with fail
   refine HC.out.mono ?_;rintro e w3 ⟨rfl,hsb,hkb⟩;have hg:=H2.out.st.trans (StX.app H2.out.st.inv (A4g (op:=0) (by decide) _))
   have HG:=hzz (show GuA w B q g s w3 from⟨s2,0,(.inl rfl),⟨hg.mono (show _<=_ from by decide) (by omega) (by omega) (by omega),hsb,H2.out.kp.trans hkb,Nat.le_trans H2.out.hB hkb.size⟩⟩)
   clear HC hsb hkb hg t2 lt2
   go_wp2_with fail
   go_meet;exact HG.out
  clear hb1 hr1;obtain⟨sA,hA⟩:=HM2.out;have HA:=hzz hA;obtain⟨ca,cc,ta,tc,ma,mc,hx⟩:=hA.wr;have HX:=hzz hx;obtain⟨c0,c1,c2,c3,c4,c5,f1,f2,f3,f4,f5,lt⟩:=hx.box
  have hlen:=hA.len (by have:=HPT.out;have:=HLW.out;omega);have HBB:=hzz hA.hB;clear hA hx c2 c3 c4 c5 f2 f3 f4 f5 t2 lt2 HM2
  go_upto_region 5 with(at_builtin;refine A0q A6d rfl _ _ rfl B _ sA.code.length _ rfl HX.out.code _ 1 _ _ rfl rfl rfl rfl (by omega) (by unfold maxLen;omega) HBB.out ?_;intro v9 w9 hown9 hg9 hb9;have hown8:w9.ownsRow B A2e 7 v9 (sA.code.length+1) ((sA.code++[(⟨187,0,0,[79,111,112,115],[],[],[]⟩:IN)]).flatMap IN.cells):=(by rw[List.flatMap_append];exact hown9);obtain⟨a9,c9,rfl,-,-⟩:=Ss.ofOwn IN.cells_length (by decide) hown8;have HAP:=hzz (HX.out.app hg9 hown8);have fo:=A0n HAP.out.2.2 1;have lto:=A0r HAP.out.2.2;have co:=A0a HAP.out.2.2 1 rfl;clear hown9 hown8 hg9 hb9 c0 c1 f1 lt)
  have hm:=HA.out.appd (x:=⟨187,0,0,[79,111,112,115],[],[],[]⟩) (fun l=>A2u l _ (by decide)) HAP.out.1 HAP.out.2.1;generalize w9.setCell ⟨g,1,none⟩ (.slice a9 (sA.code.length+1) c9)=w3 at*
  have HM3:=hzz hm;clear hm HA HX HBB HAP hlen fo lto co;have t3:=HM3.out.t;have lt3:=HM3.out.lt;obtain⟨s2,h2⟩:=HM3.out;have H2:=hzz h2;clear h2 HM3
  have HC:=hzz (B0h w3 B q g s2 191 0 H2.out.wr (H2.out.len (by have:=HPT.out;omega)) H2.out.hB)
  go_wp2_with fail
  refine HC.out.mono ?_;rintro e w4 ⟨rfl,hsb,hkb⟩;have hg:=H2.out.st.trans (StX.app H2.out.st.inv (A4g (op:=191) (by decide) _))
  have HG:=hzz (show GuA w B q g s w4 from⟨s2,191,(.inr rfl),⟨hg.mono (show _<=_ from by decide) (by omega) (by omega) (by omega),hsb,H2.out.kp.trans hkb,Nat.le_trans H2.out.hB hkb.size⟩⟩)
  clear HC hsb hkb hg t3 lt3
  go_wp2_with fail
  go_meet;exact HG.out
 obtain⟨sP,o,ho,hA⟩:=hcut;have HA:=hzz hA;obtain⟨p,hp⟩:=exz (sP.code.length);have HXP:=hzz hp;have hn1:(sP.app ⟨o,0,0,[],[],[],[]⟩).code.length=p+1:=by rw[hp];unfold WX.app;simp
 have HN1:=hzz hn1;have HOO:=hzz ho;obtain⟨ca,cc,ta,tc,ma,mc,hx⟩:=hA.wr;have t0:=hx.box.c0;have c1:=hx.box.c1;have lt:=hx.box.lt
 have hcp:(sP.app ⟨o,0,0,[],[],[],[]⟩).code[p]? =some ⟨o,0,0,[],[],[],[]⟩:=by
  unfold WX.app;dsimp only;rw[hp,List.getElem?_append_right nlz,Nat.sub_self];rfl
 have HCP:=hzz hcp;obtain⟨b,hb,hBb,hbl,hbc⟩:=A4w IN.cells_length hx.code p (by omega) (by omega) (by decide)
 have hb0:wc.cell? ⟨b,p*7,none⟩=some (.int .u8 (o:Nat)):=by
  have h:=hbc 0 (by decide);obtain⟨h1,h2⟩:=gsz hcp;rw[h2]at h;exact h
 rw[hn1,hb]at c1
 have hpb:p<=200000:=by
  have h:=hA.len (by have:=HPT.out;split<;>omega);omega
 clear hx hBb hbl hbc hcp hn1 hp hA hb ho;obtain⟨b0,hb0'⟩:∃b0,((o:Int)==0)=b0:=⟨_,rfl⟩;have HB0:=hzz hb0'
 go_upto_if 50 with fail
 go_cut [3] (fun en wx=>GuB w B q g s (p+1) en wx)
 case first=>
  rcases HOO.out with h0|h0
  ·obtain rfl:b0=true:=by rw[<-HB0.out,h0];rfl
   obtain⟨i1,hi1⟩:∃i1,i1=(sP.app ⟨o,0,0,[],[],[],[]⟩).code.length:=⟨_,rfl⟩;have HXi1:=hzz hi1
   have HC:=hzz (A7y wc B q g (sP.app ⟨o,0,0,[],[],[],[]⟩) 167 HA.out.wr (HA.out.len (by have:=HPT.out;rw[h0];show _+16<=_;omega)) HA.out.hB);rw[<-hi1]at HC;have H0:=hzz h0
   clear hi1 h0
   go_wp2_with fail
   refine HC.out.mono ?_;rintro e w3 ⟨rfl,hsb,hkb⟩
   have HG:=hzz (show GuB w B q g s (p+1) (.int .i64 (i1:Nat)) w3 from by
    have hgo:=B2x (sP.app ⟨o,0,0,[],[],[],[]⟩).code.length 167 0 (by decide) ⟨by omega,by omega⟩ (by have:=HA.out.len (by have:=HPT.out;rw[H0.out];show _+16<=_;omega);omega)
    have hst:=HA.out.st;rw[if_pos H0.out]at hst;have hap:=hst.trans (StX.app hst.inv hgo)
    refine⟨_,⟨hap.mono (by have:=(A4a hgo).2;omega) (by omega) (by omega) (by omega),hsb,HA.out.kp.trans hkb,Nat.le_trans HA.out.hB hkb.size⟩,?_,(i1:Nat),rfl,.inr ⟨i1,rfl,?_,?_⟩⟩
    ·show p+1<=((sP.app ⟨o,0,0,[],[],[],[]⟩).code++[_]).length;rw[List.length_append,HN1.out];omega
    ·rw[HXi1.out];exact hst.pre.length_le
    rw[HXi1.out]
    conv=>lhs;unfold WX.app
    dsimp only;rw[List.getElem?_append_right nlz,Nat.sub_self];rfl)
   clear HC hsb hkb
   go_wp2_with fail
   go_meet;exact HG.out
  obtain rfl:b0=false:=by rw[<-HB0.out,h0];rfl
  have HG:=hzz (show GuB w B q g s (p+1) (.int .i64 (-1)) wc from by
   have hst:=HA.out.st;rw[if_neg (by omega)]at hst;exact⟨_,⟨hst,HA.out.wr,HA.out.kp,HA.out.hB⟩,by rw[HN1.out];exact Nat.le_refl _,-1,rfl,.inl rfl⟩)
  clear h0
  go_wp2_with fail
  go_meet;exact HG.out
 have hcut2:=hcut;obtain⟨s3,h3,htn,en9,rfl,hen⟩:=hcut2;have HEN:=hzz hen;have HTN:=hzz htn;have H3:=hzz h3;clear h3 hen htn hcut HA HXP HN1 HOO HCP hb0 c1 t0 lt hb0' HB0
 have tc4:=(show Ms _ B q g _ _ _ _ _ wc from⟨_,H3.out⟩).t;have lc4:=(show Ms _ B q g _ _ _ _ _ wc from⟨_,H3.out⟩).lt
 have HC:=hzz ((H3.out.wr.below (A0f wc (.cells #[.string ⟨#[]⟩,.string ⟨#[84,104,114,111,119,97,98,108,101]⟩,.string ⟨#[77,97,116,104,70,97,117,108,116]⟩,.string ⟨#[79,111,112,115]⟩,.string ⟨#[78,117,108,108,70,97,117,108,116]⟩] 9))).next 5 (by omega) (by omega))
 go_wp2_with fail
 refine HC.out.mono ?_;rintro e w5 ⟨r5,rfl,hr5,hs5,hk5⟩;obtain⟨cl,hcl,hcm⟩:=C9j wc w5 q tcM hk5 (by have:=(show Ms _ B q g _ _ _ _ _ wc from⟨_,H3.out⟩).q;omega) r5 (by show r5<5;omega)
 have HCM:=hzz hcm
 have H3:=hzz (show MsX w B q g s 19 0 0 1 w5 s3 from⟨H3.out.st,hs5,(H3.out.kp.trans (A0z.of (A0f _ _))).trans (A0z.one hk5),Nat.le_trans H3.out.hB (Nat.le_trans (A0f _ _).size hk5.size)⟩)
 clear HC hs5 hk5 hcm tc4 lc4;have t5:=(show Ms _ B q g _ _ _ _ _ w5 from⟨_,H3.out⟩).t;have lt5:=(show Ms _ B q g _ _ _ _ _ w5 from⟨_,H3.out⟩).lt;obtain⟨bq,hbq⟩:∃bq,cl.isEmpty=bq:=⟨_,rfl⟩
 have e2:(cl==[])=bq:=by rw[<-hbq];cases cl<;>rfl
 have e3:decide (cl=[])=bq:=by rw[<-hbq];cases cl<;>simp
 have HBQ:=hzz hbq
 go_upto_if 63 with fail
 go_cut [6] (fun ct wx=>∃t:List UInt8,ct= .string ⟨t.toArray⟩/\Hid (wx=w5)/\Hid (slM.contains ([76]++t++[59])=true))
 case first=>
  have hsl:=List.all_eq_true.1 D9u cl HCM.out
  cases bq
  ·rw[if_neg (fun h=>by rw[h]at hbq;exact absurd hbq (by decide))]at hsl;have HSL:=hzz hsl;clear hsl e2 e3 hbq
   go_wp2_with fail
   go_meet;exact⟨cl,rfl,hzz rfl,HSL⟩
  rw[if_pos (by cases cl with|nil=>rfl|cons a b=>cases hbq)]at hsl
  have HSL:=hzz hsl;clear hsl e2 e3 hbq
  go_wp2_with fail
  go_meet;exact⟨_,rfl,hzz rfl,HSL⟩
 obtain⟨t,rfl,hwx,htl⟩:=hcut;have hwx:=hwx.out;subst hwx;clear e2 e3 hbq HBQ
 have htn:t.length<=12:=by
  have h:=List.all_eq_true.1 D6r _ (List.contains_iff_mem.1 htl.out);have h:=of_decide_eq_true h;simp only[List.length_append]at h;omega
 obtain⟨tt,htt⟩:=exz ([76]++t++[59])
 have hcat:((⟨#[76]⟩:ByteArray)++⟨t.toArray⟩)++⟨#[59]⟩=⟨tt.toArray⟩:=by
  rw[htt,show(⟨#[76]⟩:ByteArray)++⟨t.toArray⟩=⟨([76]++t).toArray⟩from C8v [76] t];exact C8v ([76]++t) [59]
 have HTL:=hzz (show slM.contains tt=true from by rw[htt];exact htl.out);clear htt htl;have HLN:=hzz (H3.out.lens (by have:=HPT.out;omega) (by have:=HMM.out;omega))
 obtain⟨ca3,cc3,ta3,tc3,ma3,mc3,hx3⟩:=H3.out.wr;have hxa:=hx3.below (A0f wc (.cells #[.string (((⟨#[76]⟩:ByteArray)++⟨t.toArray⟩)++⟨#[59]⟩)] 9))
 have hwa:=A5u wc B #[.string (((⟨#[76]⟩:ByteArray)++⟨t.toArray⟩)++⟨#[59]⟩)] 9 1 1 H3.out.hB rfl (by unfold maxLen;omega);obtain⟨pa,hpa⟩:=exz (s3.code.length);have HXPA:=hzz hpa
 have HC:=hzz (A6p _ B q g s3 ca3 cc3 ta3 tc3 ma3 mc3 (some ⟨wc.heap.size,0,none⟩) 1 1 [tt] hxa (by rw[hcat]at hwa⊢;exact hwa) HLN.out.1 HLN.out.2 (Nat.le_trans H3.out.hB (A0f _ _).size))
 clear hx3 hxa hwa hcat hpa t5 lt5
 go_wp2_with fail
 refine HC.out.mono ?_;rintro e w6 ⟨he,s4,ma7,mc7,hcs,hx7,hk7⟩;rw[<-HXPA.out]at he;subst he
 have HCD4:=hzz (show s4.code=s3.code from by rcases hcs with rfl|⟨_,_,_,_,_,_,rfl⟩<;>rfl)
 have HA4:=hzz (show StX 0 0 1 0 s3 s4 from by
  rcases hcs with rfl|⟨la,ln,lc,sa,sn,sc,rfl⟩
  ·exact(StX.refl H3.out.st.inv).mono nlz nlz (Nat.zero_le _) nlz
  exact StX.map H3.out.st.inv (A7m _ _ _ _ _ _ _ [tt] (fun y hy=>by rw[List.mem_singleton.1 hy];exact HTL.out) (by simp)))
 have H4:=hzz (show MsX w B q g s 19 0 1 1 w6 s4 from⟨(H3.out.st.trans HA4.out).mono (by omega) (by omega) (by omega) (by omega),⟨_,_,_,_,_,_,hx7⟩,(H3.out.kp.trans (A0z.of (A0f _ _))).trans hk7,Nat.le_trans H3.out.hB (Nat.le_trans (A0f _ _).size hk7.size)⟩)
 have HKA:=hzz (H4.out.st);clear HC hcs hx7 hk7 HLN HTL;have HM6:=hzz (Ms.zero H4.out.wr H4.out.st.inv (A0z.refl B q w6) H4.out.hB);have t6:=HM6.out.t;have lt6:=HM6.out.lt;have HPS:=HPT;clear HPT
 have HPT:=hzz (show B0j s4<=101000 from by have:=H4.out.st.w;have:=HPS.out;omega)
 have HC:=hzz (HM6.out.op 87 0 1 (A4g (by decide)) (by show A0w (A0g 87)<=1;decide) (by have:=HPT.out;have:=HLW.out;omega))
 go_wp2_with fail
 refine HC.out.mono ?_;rintro e w7 ⟨rfl,hm⟩;have HM7:=hzz hm;clear HC hm HM6 t6 lt6;have t7:=HM7.out.t;have lt7:=HM7.out.lt;obtain⟨s5,h5⟩:=HM7.out;have H5:=hzz h5;clear h5 HM7
 have HC:=hzz (HS.out w7 B q g s5 (by have:=H5.out.st.dp;have:=H4.out.st.dp;have:=HDP.out.1;omega) (by have:=H5.out.st.dp;have:=H4.out.st.dp;have:=HDP.out.2;omega) H5.out.wr H5.out.st.inv ((HLM.out.step H4.out.st (show 19+100*(23+10*j)<=_ by omega)).step H5.out.st (by omega)) ((HMP.out.step H4.out.st (show 1+(10*j+6)<=_ by omega) (by omega)).step H5.out.st (by omega) (by omega)) H5.out.hB)
 go_wp2_with fail
 refine HC.out.mono ?_;rintro e w8 ⟨rfl,hm⟩;have t8:=hm.t;have lt8:=hm.lt;obtain⟨s6,h6⟩:=hm;have H6:=hzz h6;clear HC h6 t7 lt7
 have HLEN6:=hzz (H6.out.lens (by have:=H5.out.st.w;have:=HPT.out;omega) (by have:=H5.out.st.m;have:=H4.out.st.m;have:=HMM.out;omega));obtain⟨ca,cc,ta,tc,ma,mc,hx⟩:=H6.out.wr
 obtain⟨an,han⟩:=exz (s6.code.length);have HXan:=hzz han;have HC:=hzz (A6p w8 B q g s6 ca cc ta tc ma mc none 0 0 [] hx (World.ownsRow_nil _ _ _ _) HLEN6.out.1 HLEN6.out.2 H6.out.hB);clear hx han
 go_wp2_with fail
 refine HC.out.mono ?_;rintro e w9 ⟨he,s7,ma7,mc7,hcs,hx7,hk7⟩;rw[<-HXan.out]at he;subst he
 have HCD7:=hzz (show s7.code=s6.code from by rcases hcs with rfl|⟨_,_,_,_,_,_,rfl⟩<;>rfl)
 have HA7:=hzz (show StX 0 0 1 0 s6 s7 from by
  rcases hcs with rfl|⟨la,ln,lc,sa,sn,sc,rfl⟩
  ·exact(StX.refl H6.out.st.inv).mono nlz nlz (Nat.zero_le _) nlz
  exact StX.map H6.out.st.inv (A7m _ _ _ _ _ _ _ [] (fun t ht=>by cases ht) (Nat.zero_le _)))
 have H7:=hzz (show MsX w7 B q g s5 15 0 1 0 w9 s7 from⟨(H6.out.st.trans HA7.out).mono (by omega) (by omega) (by omega) (by omega),⟨_,_,_,_,_,_,hx7⟩,H6.out.kp.trans hk7,Nat.le_trans H6.out.hB hk7.size⟩)
 clear HC hcs hx7 hk7 t8 lt8;have t9:=(show Ms w7 B q g s5 15 0 1 0 w9 from⟨_,H7.out⟩).t;have lt9:=(show Ms w7 B q g s5 15 0 1 0 w9 from⟨_,H7.out⟩).lt;have HS47:=hzz (H5.out.st.trans H7.out.st)
 have HEN7:=hzz (show en9= -1\/∃i:Nat,en9=(i:Nat)/\s.code.length<=i/\s7.code[i]? =some ⟨167,0,0,[],[],[],[]⟩/\i<an from by
  rcases HEN.out with h|⟨i,h1,h2,h3⟩
  ·exact .inl h
  refine .inr ⟨i,h1,h2,?_,?_⟩
  ·obtain⟨r,hr⟩:=HS47.out.pre;obtain⟨a1,a2⟩:=gsz h3;rw[<-hr,HCD4.out,List.getElem?_append_left a1];exact h3
  obtain⟨a1,a2⟩:=gsz h3;have b1:=H5.out.st.pre.length_le;have b2:=H6.out.st.pre.length_le;rw[HCD4.out]at b1;rw[HXan.out];omega)
 obtain⟨bz,hbz⟩:∃bz,decide (en9≥0)=bz:=⟨_,rfl⟩;have HBZ:=hzz hbz
 go_upto_if 77 with fail
 go_cut [] (fun wx=>GuC w B q g s an wx)
 case first=>
  have HC7:=hzz (show s7.code.length=an from by rw[HCD7.out,HXan.out]);have HSS:=hzz (show StX 35 0 2 2 s s7 from(H4.out.st.trans HS47.out).mono (by omega) (by omega) (by omega) (by omega))
  have HKK:=hzz ((H4.out.kp.trans H5.out.kp).trans H7.out.kp)
  rcases HEN7.out with h|⟨i,h1,h2,h3,h4⟩
  ·obtain rfl:bz=false:=by rw[<-HBZ.out,h];rfl
   have HG:=hzz (show GuC w B q g s an w9 from⟨s7,⟨HSS.out,H7.out.wr,HKK.out,H7.out.hB⟩,HC7.out⟩);clear h hbz
   go_wp2_with fail
   go_meet;exact HG.out
  obtain rfl:bz=true:=by rw[<-HBZ.out,h1];exact decide_eq_true (by omega)
  subst h1;obtain⟨ca,cc,ta,tc,ma,mc,hx⟩:=H7.out.wr;have hi7:i<s7.code.length:=by rw[HC7.out];exact h4
  obtain⟨b,hb,hBb,hbl,hbc⟩:=A4w IN.cells_length hx.code i hi7 hi7 (by decide);subst hb;have co:w9.cell? ⟨b,i*7+1,none⟩=some (.int .i64 (s7.code[i]).n):=hbc 1 (by decide)
  have fo:w9.frozen? ⟨b,i*7+1,none⟩=false:=by
   rcases hx.code.2 with⟨h1,h2⟩|⟨g',cap,cur,hv,hb,hg,r⟩
   ·cases h1
   cases hv
   exact A0n hg _
  have c0:=hx.box.c0;have c1:=hx.box.c1;have lt:=hx.box.lt;rw[HC7.out]at c1;have HP:=hzz (hx.setN i hi7 (an:Nat))
  have hy:({s7.code[i]with n:=(an:Nat)}:IN)=⟨167,(an:Nat),0,[],[],[],[]⟩:=by
   obtain⟨a1,a2⟩:=gsz h3;rw[a2]
  have HPA:=hzz ((StX.refl HI0.out).patch HSS.out i ⟨167,0,0,[],[],[],[]⟩ ⟨167,(an:Nat),0,[],[],[],[]⟩ h2 h3 (B2x _ 167 (an:Nat) (by decide) (by rw[HC7.out];omega) (by have:=HLEN6.out.1;rw[HC7.out,HXan.out];omega)) rfl)
  rw[hy]at HP
  have HG:=hzz (show GuC w B q g s an (w9.setCell ⟨b,i*7+1,none⟩ (.int .i64 (an:Nat)))from⟨_,⟨HPA.out.mono (by omega) (by omega) (by omega) (by omega),⟨_,_,_,_,_,_,HP.out.1⟩,HKK.out.trans HP.out.2,Nat.le_trans H7.out.hB HP.out.2.size⟩,by
   show(s7.code.set i _).length=an;rw[List.length_set,HC7.out]⟩)
  clear hx hBb hbc hy h2 h3 hbz
  go_wp2_with fail
  go_meet;exact HG.out
 obtain⟨s8,h8,hl8⟩:=hcut;obtain⟨ca,cc,ta,tc,ma,mc,hx⟩:=h8.wr;have H8:=hzz h8;have HX8:=hzz hx;have c2:=hx.box.c2;have f2:=hx.box.f2;have lt:=hx.box.lt;have HBB:=hzz h8.hB
 have hlen:s8.traps.length<=110000:=by
  have:=h8.st.t;have:=HTT.out;omega
 have HTM:=hzz (show TrM s8.code.length ⟨(fr:Nat),((p:Nat):Int)+1,(pa:Nat),cl⟩from by
  have a1:=h8.st.pre.length_le;have a2:=H5.out.st.pre.length_le;have a3:=H6.out.st.pre.length_le;have a4:=HTN.out;have a5:=HXan.out;have a6:=HXPA.out;have a7:=HFR.out;rw[HCD4.out]at a2
  have hc:=List.all_eq_true.1 D7y cl HCM.out;rw[Bool.or_eq_true,decide_eq_true_eq,Bool.and_eq_true]at hc;exact⟨by dsimp only;omega,by dsimp only;omega,by dsimp only;omega,hc⟩)
 clear h8 hx hl8 hbz
 go_wp2_with (at_builtin;refine A0q D4w rfl _ _ rfl B _ s8.traps.length _ rfl HX8.out.traps _ 1 _ _ rfl rfl rfl rfl (by omega) (by unfold maxLen;omega) HBB.out ?_;intro v9 w10 hown9 hg9 hb9;have hown8:w10.ownsRow B D2e 4 v9 (s8.traps.length+1) ((s8.traps++[(⟨(fr:Nat),((p:Nat):Int)+1,(pa:Nat),cl⟩:UT)]).flatMap UT.cells):=(by rw[List.flatMap_append];exact hown9);obtain⟨a9,c9,rfl,-,-⟩:=Ss.ofOwn UT.cells_length (by decide) hown8;have HAP:=hzz (HX8.out.appT hg9 hown8);have fo:=A0n HAP.out.2.2 2;have lto:=A0r HAP.out.2.2;have co:=A0a HAP.out.2.2 2 rfl;clear hown9 hown8 hg9 hb9 c2 f2 lt)
 go_end0
 exact⟨rfl,_,(H8.out.st.trans (StX.trap H8.out.st.inv HTM.out)).mono (by omega) (by omega) (by omega) (by omega),⟨_,_,_,_,_,_,HAP.out.1⟩,H8.out.kp.trans HAP.out.2.1,Nat.le_trans H8.out.hB HAP.out.2.1.size⟩
end
end Go.Proofs.YtclpkipaehpkdaaGreatDoor
