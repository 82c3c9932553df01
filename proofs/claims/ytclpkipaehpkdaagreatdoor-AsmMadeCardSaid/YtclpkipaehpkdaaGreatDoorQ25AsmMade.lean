/- asm -/
import Derived.Test.YtclpkipaehpkdaaGreatDoorQ24AsmMade
set_option linter.unusedVariables false
set_option linter.unusedSimpArgs false
set_option maxRecDepth 100000
set_option maxHeartbeats 64000000
namespace Go.Proofs.YtclpkipaehpkdaaGreatDoor
section
open Go.ChangeShapes Go.WideShapes Go.ChangeAt Go.RowKit Go.Maps
def D8m(j:Nat):Prop:=∀(w:World) (B q g:Nat) (s:WX),3-(j:Int)<=s.dp->s.dp<=3->WrS w B q g s->B4u s->Lim (10*j+20) s->MpB (10*j) s->B<=w.heap.size->
 Calls Tryz.prog 80 #[.pointer (some ⟨g,0,none⟩)] w (A9y w B q g s 5 0 0 0)
theorem D0j(c:Nat)(n:Int)(hn:n=8\/n=10):MX c ⟨188,n,0,[],[],[],[]⟩:=C1w c 188 n 0 9 (by decide) (.inl rfl) (by omega) (by omega) (by unfold A1h;simp;omega)
theorem Ms.object{w0 w:World}{B q g:Nat}{s0:WX}{k kt km n:Nat}(h:Ms w0 B q g s0 k kt km n w){L:Nat}(hl:Lim L s0)(hk:k+100<=100*L):
  Calls Tryz.prog 126 #[.pointer (some ⟨g,0,none⟩)] w (A9y w0 B q g s0 (k+5) kt km (n+1)):=by
 obtain⟨s,h⟩:=h;refine(C5m w B q g s h.wr h.st.inv (hl.step h.st (by omega)) h.hB).mono ?_;rintro e w' ⟨he,hm⟩;exact⟨he,Ms.then h hm⟩
theorem Ms.records{w0 w:World}{B q g:Nat}{s0:WX}{k kt km n:Nat}(h:Ms w0 B q g s0 k kt km n w)(HI:Hid (B2z 1)){L:Nat}(hl:Lim L s0)(hk:k+800<=100*L):
  Calls Tryz.prog 130 #[.pointer (some ⟨g,0,none⟩)] w (A9y w0 B q g s0 (k+8) kt km (n+1)):=by
 obtain⟨s,h⟩:=h;refine(C2v HI w B q g s h.wr h.st.inv (hl.step h.st (by omega)) h.hB).mono ?_;rintro e w' ⟨he,hm⟩;exact⟨he,Ms.then h hm⟩
theorem A5r(j:Nat)(HI1:Hid (B2z 1))(HI2:Hid (B2z 2))(HL2:Hid (B6n 2))(hs:0<j->B9e (j-1)):D8m j:=by
 intro w B q g s h1 h2 hw hi hl hmp hB;have HS:=hzz hs;have HMP:=hzz hmp;have HLW:=hzz (show lwM 2<=19 from by decide);clear hs hmp;obtain⟨ca,cc,ta,tc,ma,mc,hx⟩:=hw;have HX:=hzz hx
 have HI0:=hzz hi.dec;have HLM:=hzz hl.dec;have HBW:=hzz hB;have hbn:=hl.bnd hi;have HPT:=hzz (show B0j s.dec<=100000 from by have:=hl.dec.up;omega)
 have hbd: -200000<=s.bd/\s.bd<=100000:=⟨hbn.2.1,hbn.2.2⟩;obtain⟨c0,c1,c2,c3,c4,c5,f1,f2,f3,f4,f5,lt⟩:=hx.box;clear hx c1 c2 c3 c4 f1 f2 f3 f4 hi hl hB hbn;go_enter Tryz.func80,Tryz.ntmps80
 go_upto_region 1 with fail
 obtain⟨hx1,hk1⟩:=WrX.put (s':=s.dec) (ca:=ca) (cc:=cc) (ta:=ta) (tc:=tc) (ma:=ma) (mc:=mc) (q:=q) (B:=B) 5 (.int .i64 (s.bd-1)) HX.out.k rfl HX.out.code HX.out.traps HX.out.maps HX.out.each HX.out.tape HX.out.gB HX.out.qB
 have HW1:=hzz (show WrS (w.setCell ⟨g,5,none⟩ (.int .i64 (s.bd-1))) B q g s.dec from⟨_,_,_,_,_,_,hx1⟩);have HK1:=hzz hk1;have t1:=A0a hx1.k 0 rfl;clear hx1 hk1 c0 c5 f5 lt HX
 generalize w.setCell ⟨g,5,none⟩ (.int .i64 (s.bd-1))=w1 at*;have HN:=hzz (HW1.out.next 16 (by omega) (by omega))
 go_wp2_with fail
 refine HN.out.mono ?_;rintro e w2 ⟨r,rfl,hr,hs2,hk2⟩;have HM2:=hzz (Ms.zero hs2 HI0.out (HK1.out.trans (A0z.one hk2)) HBW.out);have HW2:=hzz hs2
 have HX2:=hzz (show MsX w B q g s.dec 0 0 0 0 w2 s.dec from⟨StX.refl HI0.out,hs2,HK1.out.trans (A0z.one hk2),Nat.le_trans HBW.out (HK1.out.trans (A0z.one hk2)).size⟩);have t2:=HM2.out.t
 have lt2:=HM2.out.lt;clear HN hs2 hk2 HW1 HK1 t1 HI0 HBW
 have b2:w2.cell? ⟨g,5,none⟩=some (.int .i64 (s.bd-1)):=by
  obtain⟨ca,cc,ta,tc,ma,mc,hx⟩:=HW2.out;exact hx.box.c5
 have d2:w2.cell? ⟨g,4,none⟩=some (.int .i64 s.dp):=by
  obtain⟨ca,cc,ta,tc,ma,mc,hx⟩:=HW2.out;exact hx.box.c4
 clear HW2;by_cases h3:s.bd-1<=0
 ·have e2:decide (s.bd-1<=0)=true:=by simpa using h3
  clear d2;have HC:=hzz (HM2.out.int HI2.out 2 (by omega) (by omega) HLM.out (by omega))
  go_wp2_with fail
  refine HC.out.mono ?_;rintro e w3 ⟨rfl,hm⟩;have HM3:=hzz hm;clear HC hm HM2 t2 lt2;have t3:=HM3.out.t;have lt3:=HM3.out.lt;have HC:=hzz (HM3.out.next 2 (by omega) (by omega))
  go_wp2_with fail
  refine HC.out.mono ?_;rintro e w4 ⟨r1,rfl,hr1,hm,hk⟩;have HM4:=hzz hm;clear HC hm HM3 t3 lt3 hk;have t4:=HM4.out.t;have lt4:=HM4.out.lt
  have HC:=hzz (HM4.out.op 54 (1+(r1:Nat)) 2 (A1v (by decide) (by omega)) (by show A0w (A0g 54)<=2;decide) (by have:=HPT.out;have:=HLW.out;omega))
  go_wp2_with fail
  refine HC.out.mono ?_;rintro e w5 ⟨rfl,hm⟩;have HM5:=hzz hm;clear HC hm HM4 t4 lt4;have t5:=HM5.out.t;have lt5:=HM5.out.lt
  go_wp2_with fail
  go_end0;exact⟨rfl,(HM5.out.mono (show _<=5 by have:=HLW.out;omega) nlz nlz (show 0+1<=_ by omega)).undec (.inl nlz) (.inl nlz) (.inl nlz)⟩
 have e2:decide (s.bd-1<=0)=false:=by simpa using h3
 have hbd0:1<=s.bd-1:=by omega
 have hc:r=0\/r=1\/r=2\/r=3\/r=4\/r=5\/r=6\/r=7\/r=8\/r=9\/r=10\/r=11\/r=12\/r=13\/r=14\/r=15:=by omega
 rcases hc with rfl|rfl|rfl|rfl|rfl|rfl|rfl|rfl|rfl|rfl|rfl|rfl|rfl|rfl|rfl|rfl
 ·clear hr;clear d2;have HC:=hzz (HM2.out.int HI2.out 2 (by omega) (by omega) HLM.out (by omega))
  go_wp2_with fail
  refine HC.out.mono ?_;rintro e w3 ⟨rfl,hm⟩;have HM3:=hzz hm;clear HC hm HM2 t2 lt2;have t3:=HM3.out.t;have lt3:=HM3.out.lt;have HC:=hzz (HM3.out.next 2 (by omega) (by omega))
  go_wp2_with fail
  refine HC.out.mono ?_;rintro e w4 ⟨r1,rfl,hr1,hm,hk⟩;have HM4:=hzz hm;clear HC hm HM3 t3 lt3 hk;have t4:=HM4.out.t;have lt4:=HM4.out.lt
  have HC:=hzz (HM4.out.op 54 (1+(r1:Nat)) 2 (A1v (by decide) (by omega)) (by show A0w (A0g 54)<=2;decide) (by have:=HPT.out;have:=HLW.out;omega))
  go_wp2_with fail
  refine HC.out.mono ?_;rintro e w5 ⟨rfl,hm⟩;have HM5:=hzz hm;clear HC hm HM4 t4 lt4;have t5:=HM5.out.t;have lt5:=HM5.out.lt
  go_wp2_with fail
  go_end0;exact⟨rfl,(HM5.out.mono (show _<=45 by have:=HLW.out;omega) nlz nlz (show 0+1<=_ by omega)).undec (.inr ⟨by have:=hbd0;omega,Nat.le_refl _⟩) (.inl nlz) (.inl nlz)⟩
 ·clear hr;clear d2;have HC:=hzz (HM2.out.int HI2.out 2 (by omega) (by omega) HLM.out (by omega))
  go_wp2_with fail
  refine HC.out.mono ?_;rintro e w3 ⟨rfl,hm⟩;have HM3:=hzz hm;clear HC hm HM2 t2 lt2;have t3:=HM3.out.t;have lt3:=HM3.out.lt;have HC:=hzz (HM3.out.next 2 (by omega) (by omega))
  go_wp2_with fail
  refine HC.out.mono ?_;rintro e w4 ⟨r1,rfl,hr1,hm,hk⟩;have HM4:=hzz hm;clear HC hm HM3 t3 lt3 hk;have t4:=HM4.out.t;have lt4:=HM4.out.lt
  have HC:=hzz (HM4.out.op 54 (1+(r1:Nat)) 2 (A1v (by decide) (by omega)) (by show A0w (A0g 54)<=2;decide) (by have:=HPT.out;have:=HLW.out;omega))
  go_wp2_with fail
  refine HC.out.mono ?_;rintro e w5 ⟨rfl,hm⟩;have HM5:=hzz hm;clear HC hm HM4 t4 lt4;have t5:=HM5.out.t;have lt5:=HM5.out.lt
  go_wp2_with fail
  go_end0;exact⟨rfl,(HM5.out.mono (show _<=45 by have:=HLW.out;omega) nlz nlz (show 0+1<=_ by omega)).undec (.inr ⟨by have:=hbd0;omega,Nat.le_refl _⟩) (.inl nlz) (.inl nlz)⟩
 ·clear hr;clear d2;have HC:=hzz (HM2.out.int HI2.out 2 (by omega) (by omega) HLM.out (by omega))
  go_wp2_with fail
  refine HC.out.mono ?_;rintro e w3 ⟨rfl,hm⟩;have HM3:=hzz hm;clear HC hm HM2 t2 lt2;have t3:=HM3.out.t;have lt3:=HM3.out.lt
  have HC:=hzz (HM3.out.name 184 [115,121,115] [112,114,105,110,116] [40,73,41,86] (fun l=>A2u l _ (by decide)) (by have:=HPT.out;have:=HLW.out;omega))
  go_wp2_with fail
  refine HC.out.mono ?_;rintro e w4 ⟨rfl,hm⟩;have HM4:=hzz hm;clear HC hm HM3 t3 lt3;have t4:=HM4.out.t;have lt4:=HM4.out.lt
  go_wp2_with fail
  go_end0;exact⟨rfl,(HM4.out.mono (show _<=45 by have:=HLW.out;omega) nlz nlz (show 0+1<=_ by omega)).undec (.inr ⟨by have:=hbd0;omega,Nat.le_refl _⟩) (.inl nlz) (.inl nlz)⟩
 ·clear hr;clear d2;have HC:=hzz (HM2.out.long HL2.out 2 (by omega) (by omega) HLM.out (by omega))
  go_wp2_with fail
  refine HC.out.mono ?_;rintro e w3 ⟨rfl,hm⟩;have HM3:=hzz hm;clear HC hm HM2 t2 lt2;have t3:=HM3.out.t;have lt3:=HM3.out.lt
  have HC:=hzz (HM3.out.op 55 3 2 (A1v (by decide) (by omega)) (by show A0w (A0g 55)<=2;decide) (by have:=HPT.out;have:=HLW.out;omega))
  go_wp2_with fail
  refine HC.out.mono ?_;rintro e w4 ⟨rfl,hm⟩;have HM4:=hzz hm;clear HC hm HM3 t3 lt3;have t4:=HM4.out.t;have lt4:=HM4.out.lt
  go_wp2_with fail
  go_end0;exact⟨rfl,(HM4.out.mono (show _<=45 by have:=HLW.out;omega) nlz nlz (show 0+1<=_ by omega)).undec (.inr ⟨by have:=hbd0;omega,Nat.le_refl _⟩) (.inl nlz) (.inl nlz)⟩
 ·clear hr;clear d2;have HC:=hzz (HM2.out.object HLM.out (by omega))
  go_wp2_with fail
  refine HC.out.mono ?_;rintro e w3 ⟨rfl,hm⟩;have HM3:=hzz hm;clear HC hm HM2 t2 lt2;have t3:=HM3.out.t;have lt3:=HM3.out.lt
  have HC:=hzz (HM3.out.op 58 5 2 (A1v (by decide) (by omega)) (by show A0w (A0g 58)<=2;decide) (by have:=HPT.out;have:=HLW.out;omega))
  go_wp2_with fail
  refine HC.out.mono ?_;rintro e w4 ⟨rfl,hm⟩;have HM4:=hzz hm;clear HC hm HM3 t3 lt3;have t4:=HM4.out.t;have lt4:=HM4.out.lt
  go_wp2_with fail
  go_end0;exact⟨rfl,(HM4.out.mono (show _<=45 by have:=HLW.out;omega) nlz nlz (show 0+1<=_ by omega)).undec (.inr ⟨by have:=hbd0;omega,Nat.le_refl _⟩) (.inl nlz) (.inl nlz)⟩
 ·clear hr;clear d2;have HC:=hzz (HM2.out.op 25 5 2 (A1v (by decide) (by omega)) (by show A0w (A0g 25)<=2;decide) (by have:=HPT.out;have:=HLW.out;omega))
  go_wp2_with fail
  refine HC.out.mono ?_;rintro e w3 ⟨rfl,hm⟩;have HM3:=hzz hm;clear HC hm HM2 t2 lt2;have t3:=HM3.out.t;have lt3:=HM3.out.lt
  have HC:=hzz (HM3.out.int HI1.out 1 (by omega) (by omega) HLM.out (by omega))
  go_wp2_with fail
  refine HC.out.mono ?_;rintro e w4 ⟨rfl,hm⟩;have HM4:=hzz hm;clear HC hm HM3 t3 lt3;have t4:=HM4.out.t;have lt4:=HM4.out.lt
  have HC:=hzz (HM4.out.name 181 [65] [102] [73] (fun l=>A2u l _ (by decide)) (by have:=HPT.out;have:=HLW.out;omega))
  go_wp2_with fail
  refine HC.out.mono ?_;rintro e w5 ⟨rfl,hm⟩;have HM5:=hzz hm;clear HC hm HM4 t4 lt4;have t5:=HM5.out.t;have lt5:=HM5.out.lt
  go_wp2_with fail
  go_end0;exact⟨rfl,(HM5.out.mono (show _<=45 by have:=HLW.out;omega) nlz nlz (show 0+1<=_ by omega)).undec (.inr ⟨by have:=hbd0;omega,Nat.le_refl _⟩) (.inl nlz) (.inl nlz)⟩
 ·clear hr;clear d2;have HC:=hzz (HM2.out.int HI1.out 1 (by omega) (by omega) HLM.out (by omega))
  go_wp2_with fail
  refine HC.out.mono ?_;rintro e w3 ⟨rfl,hm⟩;have HM3:=hzz hm;clear HC hm HM2 t2 lt2;have t3:=HM3.out.t;have lt3:=HM3.out.lt
  have HC:=hzz (HM3.out.name 179 [77,97,105,110] [115] [73] (fun l=>A2u l _ (by decide)) (by have:=HPT.out;have:=HLW.out;omega))
  go_wp2_with fail
  refine HC.out.mono ?_;rintro e w4 ⟨rfl,hm⟩;have HM4:=hzz hm;clear HC hm HM3 t3 lt3;have t4:=HM4.out.t;have lt4:=HM4.out.lt
  go_wp2_with fail
  go_end0;exact⟨rfl,(HM4.out.mono (show _<=45 by have:=HLW.out;omega) nlz nlz (show 0+1<=_ by omega)).undec (.inr ⟨by have:=hbd0;omega,Nat.le_refl _⟩) (.inl nlz) (.inl nlz)⟩
 ·clear hr;clear d2;have HC:=hzz (HM2.out.int HI1.out 1 (by omega) (by omega) HLM.out (by omega))
  go_wp2_with fail
  refine HC.out.mono ?_;rintro e w3 ⟨rfl,hm⟩;have HM3:=hzz hm;clear HC hm HM2 t2 lt2;have t3:=HM3.out.t;have lt3:=HM3.out.lt;have HC:=hzz (HM3.out.next 2 (by omega) (by omega))
  go_wp2_with fail
  refine HC.out.mono ?_;rintro e w4 ⟨r1,rfl,hr1,hm,hk⟩;have HM4:=hzz hm;clear HC hm HM3 t3 lt3 hk;have t4:=HM4.out.t;have lt4:=HM4.out.lt;have hc1:r1=0\/r1=1:=by omega
  rcases hc1 with rfl|rfl
  ·have HC:=hzz (HM4.out.op 188 10 2 (fun c=>D0j c 10 (by omega)) (by show A0w (A0g 188)<=2;decide) (by have:=HPT.out;have:=HLW.out;omega))
   go_wp2_with fail
   refine HC.out.mono ?_;rintro e w5 ⟨rfl,hm⟩;have HM5:=hzz hm;clear HC hm HM4 t4 lt4;have t5:=HM5.out.t;have lt5:=HM5.out.lt
   have HC:=hzz (HM5.out.op 58 6 2 (A1v (by decide) (by omega)) (by show A0w (A0g 58)<=2;decide) (by have:=HPT.out;have:=HLW.out;omega))
   go_wp2_with fail
   refine HC.out.mono ?_;rintro e w6 ⟨rfl,hm⟩;have HM6:=hzz hm;clear HC hm HM5 t5 lt5;have t6:=HM6.out.t;have lt6:=HM6.out.lt
   go_wp2_with fail
   go_end0;exact⟨rfl,(HM6.out.mono (show _<=45 by have:=HLW.out;omega) nlz nlz (show 0+1<=_ by omega)).undec (.inr ⟨by have:=hbd0;omega,Nat.le_refl _⟩) (.inl nlz) (.inl nlz)⟩
  have HC:=hzz (HM4.out.op 188 8 2 (fun c=>D0j c 8 (by omega)) (by show A0w (A0g 188)<=2;decide) (by have:=HPT.out;have:=HLW.out;omega))
  go_wp2_with fail
  refine HC.out.mono ?_;rintro e w5 ⟨rfl,hm⟩;have HM5:=hzz hm;clear HC hm HM4 t4 lt4;have t5:=HM5.out.t;have lt5:=HM5.out.lt
  have HC:=hzz (HM5.out.op 58 7 2 (A1v (by decide) (by omega)) (by show A0w (A0g 58)<=2;decide) (by have:=HPT.out;have:=HLW.out;omega))
  go_wp2_with fail
  refine HC.out.mono ?_;rintro e w6 ⟨rfl,hm⟩;have HM6:=hzz hm;clear HC hm HM5 t5 lt5;have t6:=HM6.out.t;have lt6:=HM6.out.lt
  go_wp2_with fail
  go_end0;exact⟨rfl,(HM6.out.mono (show _<=45 by have:=HLW.out;omega) nlz nlz (show 0+1<=_ by omega)).undec (.inr ⟨by have:=hbd0;omega,Nat.le_refl _⟩) (.inl nlz) (.inl nlz)⟩
 ·clear hr;clear d2;have HC:=hzz (HM2.out.op 25 6 2 (A1v (by decide) (by omega)) (by show A0w (A0g 25)<=2;decide) (by have:=HPT.out;have:=HLW.out;omega))
  go_wp2_with fail
  refine HC.out.mono ?_;rintro e w3 ⟨rfl,hm⟩;have HM3:=hzz hm;clear HC hm HM2 t2 lt2;have t3:=HM3.out.t;have lt3:=HM3.out.lt
  have HC:=hzz (HM3.out.int HI1.out 1 (by omega) (by omega) HLM.out (by omega))
  go_wp2_with fail
  refine HC.out.mono ?_;rintro e w4 ⟨rfl,hm⟩;have HM4:=hzz hm;clear HC hm HM3 t3 lt3;have t4:=HM4.out.t;have lt4:=HM4.out.lt
  have HC:=hzz (HM4.out.int HI1.out 1 (by omega) (by omega) HLM.out (by omega))
  go_wp2_with fail
  refine HC.out.mono ?_;rintro e w5 ⟨rfl,hm⟩;have HM5:=hzz hm;clear HC hm HM4 t4 lt4;have t5:=HM5.out.t;have lt5:=HM5.out.lt
  have HC:=hzz (HM5.out.op 79 0 1 (A4g (by decide)) (by show A0w (A0g 79)<=1;decide) (by have:=HPT.out;have:=HLW.out;omega))
  go_wp2_with fail
  refine HC.out.mono ?_;rintro e w6 ⟨rfl,hm⟩;have HM6:=hzz hm;clear HC hm HM5 t5 lt5;have t6:=HM6.out.t;have lt6:=HM6.out.lt
  go_wp2_with fail
  go_end0;exact⟨rfl,(HM6.out.mono (show _<=45 by have:=HLW.out;omega) nlz nlz (show 0+1<=_ by omega)).undec (.inr ⟨by have:=hbd0;omega,Nat.le_refl _⟩) (.inl nlz) (.inl nlz)⟩
 ·clear hr;by_cases hdp:s.dp<3
  ·have ed:decide (s.dp<3)=true:=decide_eq_true hdp;have hj:0<j:=by omega
   have HC:=hzz (C6j (j-1) HI1 (hzz (HS.out hj)) w2 B q g s.dec (by show _<=s.dp;omega) (by show s.dp<=2;omega) HX2.out.wr HX2.out.st.inv (HLM.out.step HX2.out.st (by omega)) (HMP.out.dec.weak (by omega)) HX2.out.hB)
   go_wp2_with fail
   refine HC.out.mono ?_;rintro e w3 ⟨rfl,hm⟩;clear b2 d2 t2 lt2 HM2;have HM3:=hzz (Ms.then HX2.out hm);clear HC hm
   go_wp2_with fail
   go_end0
   exact⟨rfl,(HM3.out.mono (show _<=45 by omega) (show _<=1 by omega) (show _<=2 by omega) (show 0+1<=_ by omega)).undec (.inr ⟨by have:=hbd0;omega,Nat.le_refl _⟩) (.inr ⟨by have:=hbd0;omega,Nat.le_refl _⟩) (.inr ⟨by have:=hbd0;omega,Nat.le_refl _⟩)⟩
  have ed:decide (s.dp<3)=false:=decide_eq_false hdp
  go_upto_region 2 with fail
  obtain⟨sA,hA⟩:=HM2.out;have HA:=hzz hA;obtain⟨ca,cc,ta,tc,ma,mc,hx⟩:=hA.wr;have HX6:=hzz (hx.below (brz.drew));have HK6:=hzz (show A0z B q w2 w2.drew from A0z.of (brz.drew))
  have hlen:=hA.len (by have:=HPT.out;omega);have HBB:=hzz (show B<=w2.drew.heap.size from hA.hB)
  have hSw:SW g q (.slice ca sA.code.length cc) w2.drew:=⟨A0a HX6.out.k 1 rfl,A0a HX6.out.k 0 rfl⟩
  have l0:∀z,SW g q (.slice ca sA.code.length cc) z->z.cell? ⟨g,1,none⟩=some (.slice ca sA.code.length cc):=fun z h=>h.1
  have l1:∀z,SW g q (.slice ca sA.code.length cc) z->z.cell? ⟨g,0,none⟩=some (.pointer (some ⟨q,0,none⟩)):=fun z h=>h.2
  clear hA hx t2 lt2 b2 d2 HM2
  refine A0t (SW g q (.slice ca sA.code.length cc)) 21 [(0,true),(1,true),(2,true),(3,true),(4,true),(5,true),(6,true),(7,true),(8,true),(10,true),(11,true),(12,true),(13,true),(9,false),(14,false),(15,true),(16,true),(17,false),(18,false),(19,true),(20,true)] (by kernel_rfl) (by kernel_rfl) (fun c a d v w h=>by cases d<;>exact h) ?_
  generalize w2.drew=W6 at*
  iterate 13
   refine A0d fun K hK=>tkF ?_
   go_simp
   try go_bits
   refine hK _ _ ?_;clear hK K
  refine A0d fun K hK=>alF ?_
  go_step;refine(A2w W6 q 3 HX6.out.tape (by omega) (by omega)).mono ?_;rintro e w7 ⟨r7,rfl,hr7,ht7,hk7⟩;have HX7:=hzz (HX6.out.turned hk7 ht7);have HK7:=hzz (HK6.out.trans (A0z.one hk7))
  have HB7:=hzz (Nat.le_trans HBB.out hk7.size);have hSx:SW g q (.slice ca sA.code.length cc) w7:=⟨A0a HX7.out.k 1 rfl,A0a HX7.out.k 0 rfl⟩;clear hSw HX6 HK6 HBB ht7 hk7;have hSw:=hSx
  clear hSx;go_simp
  first|refine⟨hSw,hK _ _ ?_⟩|refine hK _ _ ?_
  clear hK K;refine A0d fun K hK=>alF ?_
  go_step;refine(A2w w7 q 9 HX7.out.tape (by omega) (by omega)).mono ?_;rintro e w8 ⟨r8,rfl,hr8,ht8,hk8⟩;have HX8:=hzz (HX7.out.turned hk8 ht8);have HK8:=hzz (HK7.out.trans (A0z.one hk8))
  have HB8:=hzz (Nat.le_trans HB7.out hk8.size);have hSx:SW g q (.slice ca sA.code.length cc) w8:=⟨A0a HX8.out.k 1 rfl,A0a HX8.out.k 0 rfl⟩;clear hSw HX7 HK7 HB7 ht8 hk8;have hSw:=hSx
  clear hSx;go_simp
  first|refine⟨hSw,hK _ _ ?_⟩|refine hK _ _ ?_
  clear hK K
  iterate 2
   refine A0d fun K hK=>tkF ?_
   go_simp
   try go_bits
   refine hK _ _ ?_;clear hK K
  refine A0d fun K hK=>alF ?_
  go_step;have hal:Below w8.heap.size w8 (w8.alloc (.cells #[.int .u8 132,.int .i64 (r7:Nat),.int .i64 ((r8:Nat) -4),.string ⟨#[]⟩,.string ⟨#[]⟩,.string ⟨#[]⟩,.string ⟨#[]⟩] A2e)):=A0f _ _
  have hSx:SW g q (.slice ca sA.code.length cc) (w8.alloc (.cells #[.int .u8 132,.int .i64 (r7:Nat),.int .i64 ((r8:Nat) -4),.string ⟨#[]⟩,.string ⟨#[]⟩,.string ⟨#[]⟩,.string ⟨#[]⟩] A2e)):=⟨A0c hal hSw.1,A0c hal hSw.2⟩
  refine⟨hSx,hK _ _ ?_⟩;clear hK K;refine A0d fun K hK=>alF ?_
  change Oper.wp _ _ _ _ _ _
  refine A3h A6d (ops:= #[]) rfl _ _ _ rfl B _ sA.code.length _ rfl (HX8.out.code.alloc _) _ 1 _ rfl (Src.litS (m:=1) rfl rfl A6d.1) (by omega) (by unfold maxLen;omega) (Nat.le_trans HB8.out (by simp)) ?_
  intro v9 w9 hown9 hg9 hb9
  have hown8:w9.ownsRow B A2e 7 v9 (sA.code.length+1) ((sA.code++[(⟨132,(r7:Nat),(r8:Nat) -4,[],[],[],[]⟩:IN)]).flatMap IN.cells):=(by rw[List.flatMap_append];exact hown9)
  obtain⟨a9,c9,rfl,-,-⟩:=Ss.ofOwn IN.cells_length (by decide) hown8;have HAP:=hzz (HX8.out.app hg9 hown8)
  have hSn:SW g q (.slice ca sA.code.length cc) w9:=⟨A0a HAP.out.2.2 1 rfl,A0a HAP.out.2.2 0 rfl⟩;clear hSw hSx hal hown9 hown8 hg9 hb9;have hSw:=hSn;clear hSn;refine⟨hSw,hK _ _ ?_⟩
  clear hK K
  iterate 2
   refine A0d fun K hK=>tkF ?_
   go_simp
   try go_bits
   refine hK _ _ ?_;clear hK K
  have fo:=A0n HAP.out.2.2 1;have lto:=A0r HAP.out.2.2;have co:=A0a HAP.out.2.2 1 rfl;refine A1u (laF ?_);go_step
  have hm:=HA.out.appd (x:=⟨132,(r7:Nat),(r8:Nat) -4,[],[],[],[]⟩) (fun c=>B9g c r7 ((r8:Nat) -4) (by omega) (by omega)) HAP.out.1 (HK8.out.trans HAP.out.2.1);go_end0
  exact⟨rfl,(hm.mono (show _<=45 by have:=HLW.out;omega) nlz nlz (show 0+1<=_ by omega)).undec (.inr ⟨by have:=hbd0;omega,Nat.le_refl _⟩) (.inl nlz) (.inl nlz)⟩
 ·clear hr;by_cases hdp:s.dp<3
  ·have ed:decide (s.dp<3)=true:=decide_eq_true hdp;have hj:0<j:=by omega
   have HC:=hzz (D1z (j-1) (hzz (HS.out hj)) w2 B q g s.dec (by show _<=s.dp;omega) (by show s.dp<=2;omega) HX2.out.wr HX2.out.st.inv (HLM.out.step HX2.out.st (by omega)) (HMP.out.dec.weak (by omega)) HX2.out.hB)
   go_wp2_with fail
   refine HC.out.mono ?_;rintro e w3 ⟨rfl,hm⟩;clear b2 d2 t2 lt2 HM2;have HM3:=hzz (Ms.then HX2.out hm);clear HC hm
   go_wp2_with fail
   go_end0
   exact⟨rfl,(HM3.out.mono (show _<=45 by omega) (show _<=1 by omega) (show _<=2 by omega) (show 0+1<=_ by omega)).undec (.inr ⟨by have:=hbd0;omega,Nat.le_refl _⟩) (.inr ⟨by have:=hbd0;omega,Nat.le_refl _⟩) (.inr ⟨by have:=hbd0;omega,Nat.le_refl _⟩)⟩
  have ed:decide (s.dp<3)=false:=decide_eq_false hdp
  go_upto_region 2 with fail
  obtain⟨sA,hA⟩:=HM2.out;have HA:=hzz hA;obtain⟨ca,cc,ta,tc,ma,mc,hx⟩:=hA.wr;have HX6:=hzz (hx.below (brz.drew));have HK6:=hzz (show A0z B q w2 w2.drew from A0z.of (brz.drew))
  have hlen:=hA.len (by have:=HPT.out;omega);have HBB:=hzz (show B<=w2.drew.heap.size from hA.hB)
  have hSw:SW g q (.slice ca sA.code.length cc) w2.drew:=⟨A0a HX6.out.k 1 rfl,A0a HX6.out.k 0 rfl⟩
  have l0:∀z,SW g q (.slice ca sA.code.length cc) z->z.cell? ⟨g,1,none⟩=some (.slice ca sA.code.length cc):=fun z h=>h.1
  have l1:∀z,SW g q (.slice ca sA.code.length cc) z->z.cell? ⟨g,0,none⟩=some (.pointer (some ⟨q,0,none⟩)):=fun z h=>h.2
  clear hA hx t2 lt2 b2 d2 HM2
  refine A0t (SW g q (.slice ca sA.code.length cc)) 21 [(0,true),(1,true),(2,true),(3,true),(4,true),(5,true),(6,true),(7,true),(8,true),(10,true),(11,true),(12,true),(13,true),(9,false),(14,false),(15,true),(16,true),(17,false),(18,false),(19,true),(20,true)] (by kernel_rfl) (by kernel_rfl) (fun c a d v w h=>by cases d<;>exact h) ?_
  generalize w2.drew=W6 at*
  iterate 13
   refine A0d fun K hK=>tkF ?_
   go_simp
   try go_bits
   refine hK _ _ ?_;clear hK K
  refine A0d fun K hK=>alF ?_
  go_step;refine(A2w W6 q 3 HX6.out.tape (by omega) (by omega)).mono ?_;rintro e w7 ⟨r7,rfl,hr7,ht7,hk7⟩;have HX7:=hzz (HX6.out.turned hk7 ht7);have HK7:=hzz (HK6.out.trans (A0z.one hk7))
  have HB7:=hzz (Nat.le_trans HBB.out hk7.size);have hSx:SW g q (.slice ca sA.code.length cc) w7:=⟨A0a HX7.out.k 1 rfl,A0a HX7.out.k 0 rfl⟩;clear hSw HX6 HK6 HBB ht7 hk7;have hSw:=hSx
  clear hSx;go_simp
  first|refine⟨hSw,hK _ _ ?_⟩|refine hK _ _ ?_
  clear hK K;refine A0d fun K hK=>alF ?_
  go_step;refine(A2w w7 q 9 HX7.out.tape (by omega) (by omega)).mono ?_;rintro e w8 ⟨r8,rfl,hr8,ht8,hk8⟩;have HX8:=hzz (HX7.out.turned hk8 ht8);have HK8:=hzz (HK7.out.trans (A0z.one hk8))
  have HB8:=hzz (Nat.le_trans HB7.out hk8.size);have hSx:SW g q (.slice ca sA.code.length cc) w8:=⟨A0a HX8.out.k 1 rfl,A0a HX8.out.k 0 rfl⟩;clear hSw HX7 HK7 HB7 ht8 hk8;have hSw:=hSx
  clear hSx;go_simp
  first|refine⟨hSw,hK _ _ ?_⟩|refine hK _ _ ?_
  clear hK K
  iterate 2
   refine A0d fun K hK=>tkF ?_
   go_simp
   try go_bits
   refine hK _ _ ?_;clear hK K
  refine A0d fun K hK=>alF ?_
  go_step;have hal:Below w8.heap.size w8 (w8.alloc (.cells #[.int .u8 132,.int .i64 (r7:Nat),.int .i64 ((r8:Nat) -4),.string ⟨#[]⟩,.string ⟨#[]⟩,.string ⟨#[]⟩,.string ⟨#[]⟩] A2e)):=A0f _ _
  have hSx:SW g q (.slice ca sA.code.length cc) (w8.alloc (.cells #[.int .u8 132,.int .i64 (r7:Nat),.int .i64 ((r8:Nat) -4),.string ⟨#[]⟩,.string ⟨#[]⟩,.string ⟨#[]⟩,.string ⟨#[]⟩] A2e)):=⟨A0c hal hSw.1,A0c hal hSw.2⟩
  refine⟨hSx,hK _ _ ?_⟩;clear hK K;refine A0d fun K hK=>alF ?_
  change Oper.wp _ _ _ _ _ _
  refine A3h A6d (ops:= #[]) rfl _ _ _ rfl B _ sA.code.length _ rfl (HX8.out.code.alloc _) _ 1 _ rfl (Src.litS (m:=1) rfl rfl A6d.1) (by omega) (by unfold maxLen;omega) (Nat.le_trans HB8.out (by simp)) ?_
  intro v9 w9 hown9 hg9 hb9
  have hown8:w9.ownsRow B A2e 7 v9 (sA.code.length+1) ((sA.code++[(⟨132,(r7:Nat),(r8:Nat) -4,[],[],[],[]⟩:IN)]).flatMap IN.cells):=(by rw[List.flatMap_append];exact hown9)
  obtain⟨a9,c9,rfl,-,-⟩:=Ss.ofOwn IN.cells_length (by decide) hown8;have HAP:=hzz (HX8.out.app hg9 hown8)
  have hSn:SW g q (.slice ca sA.code.length cc) w9:=⟨A0a HAP.out.2.2 1 rfl,A0a HAP.out.2.2 0 rfl⟩;clear hSw hSx hal hown9 hown8 hg9 hb9;have hSw:=hSn;clear hSn;refine⟨hSw,hK _ _ ?_⟩
  clear hK K
  iterate 2
   refine A0d fun K hK=>tkF ?_
   go_simp
   try go_bits
   refine hK _ _ ?_;clear hK K
  have fo:=A0n HAP.out.2.2 1;have lto:=A0r HAP.out.2.2;have co:=A0a HAP.out.2.2 1 rfl;refine A1u (laF ?_);go_step
  have hm:=HA.out.appd (x:=⟨132,(r7:Nat),(r8:Nat) -4,[],[],[],[]⟩) (fun c=>B9g c r7 ((r8:Nat) -4) (by omega) (by omega)) HAP.out.1 (HK8.out.trans HAP.out.2.1);go_end0
  exact⟨rfl,(hm.mono (show _<=45 by have:=HLW.out;omega) nlz nlz (show 0+1<=_ by omega)).undec (.inr ⟨by have:=hbd0;omega,Nat.le_refl _⟩) (.inl nlz) (.inl nlz)⟩
 ·clear hr;by_cases hdp:s.dp<3
  ·have ed:decide (s.dp<3)=true:=decide_eq_true hdp;have hj:0<j:=by omega
   have HC:=hzz (C2h (j-1) (hzz (HS.out hj)) w2 B q g s.dec (by show _<=s.dp;omega) (by show s.dp<=2;omega) HX2.out.wr HX2.out.st.inv (HLM.out.step HX2.out.st (by omega)) (HMP.out.dec.weak (by omega)) HX2.out.hB)
   go_wp2_with fail
   refine HC.out.mono ?_;rintro e w3 ⟨rfl,hm⟩;clear b2 d2 t2 lt2 HM2;have HM3:=hzz (Ms.then HX2.out hm);clear HC hm
   go_wp2_with fail
   go_end0
   exact⟨rfl,(HM3.out.mono (show _<=45 by omega) (show _<=1 by omega) (show _<=2 by omega) (show 0+1<=_ by omega)).undec (.inr ⟨by have:=hbd0;omega,Nat.le_refl _⟩) (.inr ⟨by have:=hbd0;omega,Nat.le_refl _⟩) (.inr ⟨by have:=hbd0;omega,Nat.le_refl _⟩)⟩
  have ed:decide (s.dp<3)=false:=decide_eq_false hdp
  go_upto_region 2 with fail
  obtain⟨sA,hA⟩:=HM2.out;have HA:=hzz hA;obtain⟨ca,cc,ta,tc,ma,mc,hx⟩:=hA.wr;have HX6:=hzz (hx.below (brz.drew));have HK6:=hzz (show A0z B q w2 w2.drew from A0z.of (brz.drew))
  have hlen:=hA.len (by have:=HPT.out;omega);have HBB:=hzz (show B<=w2.drew.heap.size from hA.hB)
  have hSw:SW g q (.slice ca sA.code.length cc) w2.drew:=⟨A0a HX6.out.k 1 rfl,A0a HX6.out.k 0 rfl⟩
  have l0:∀z,SW g q (.slice ca sA.code.length cc) z->z.cell? ⟨g,1,none⟩=some (.slice ca sA.code.length cc):=fun z h=>h.1
  have l1:∀z,SW g q (.slice ca sA.code.length cc) z->z.cell? ⟨g,0,none⟩=some (.pointer (some ⟨q,0,none⟩)):=fun z h=>h.2
  clear hA hx t2 lt2 b2 d2 HM2
  refine A0t (SW g q (.slice ca sA.code.length cc)) 21 [(0,true),(1,true),(2,true),(3,true),(4,true),(5,true),(6,true),(7,true),(8,true),(10,true),(11,true),(12,true),(13,true),(9,false),(14,false),(15,true),(16,true),(17,false),(18,false),(19,true),(20,true)] (by kernel_rfl) (by kernel_rfl) (fun c a d v w h=>by cases d<;>exact h) ?_
  generalize w2.drew=W6 at*
  iterate 13
   refine A0d fun K hK=>tkF ?_
   go_simp
   try go_bits
   refine hK _ _ ?_;clear hK K
  refine A0d fun K hK=>alF ?_
  go_step;refine(A2w W6 q 3 HX6.out.tape (by omega) (by omega)).mono ?_;rintro e w7 ⟨r7,rfl,hr7,ht7,hk7⟩;have HX7:=hzz (HX6.out.turned hk7 ht7);have HK7:=hzz (HK6.out.trans (A0z.one hk7))
  have HB7:=hzz (Nat.le_trans HBB.out hk7.size);have hSx:SW g q (.slice ca sA.code.length cc) w7:=⟨A0a HX7.out.k 1 rfl,A0a HX7.out.k 0 rfl⟩;clear hSw HX6 HK6 HBB ht7 hk7;have hSw:=hSx
  clear hSx;go_simp
  first|refine⟨hSw,hK _ _ ?_⟩|refine hK _ _ ?_
  clear hK K;refine A0d fun K hK=>alF ?_
  go_step;refine(A2w w7 q 9 HX7.out.tape (by omega) (by omega)).mono ?_;rintro e w8 ⟨r8,rfl,hr8,ht8,hk8⟩;have HX8:=hzz (HX7.out.turned hk8 ht8);have HK8:=hzz (HK7.out.trans (A0z.one hk8))
  have HB8:=hzz (Nat.le_trans HB7.out hk8.size);have hSx:SW g q (.slice ca sA.code.length cc) w8:=⟨A0a HX8.out.k 1 rfl,A0a HX8.out.k 0 rfl⟩;clear hSw HX7 HK7 HB7 ht8 hk8;have hSw:=hSx
  clear hSx;go_simp
  first|refine⟨hSw,hK _ _ ?_⟩|refine hK _ _ ?_
  clear hK K
  iterate 2
   refine A0d fun K hK=>tkF ?_
   go_simp
   try go_bits
   refine hK _ _ ?_;clear hK K
  refine A0d fun K hK=>alF ?_
  go_step;have hal:Below w8.heap.size w8 (w8.alloc (.cells #[.int .u8 132,.int .i64 (r7:Nat),.int .i64 ((r8:Nat) -4),.string ⟨#[]⟩,.string ⟨#[]⟩,.string ⟨#[]⟩,.string ⟨#[]⟩] A2e)):=A0f _ _
  have hSx:SW g q (.slice ca sA.code.length cc) (w8.alloc (.cells #[.int .u8 132,.int .i64 (r7:Nat),.int .i64 ((r8:Nat) -4),.string ⟨#[]⟩,.string ⟨#[]⟩,.string ⟨#[]⟩,.string ⟨#[]⟩] A2e)):=⟨A0c hal hSw.1,A0c hal hSw.2⟩
  refine⟨hSx,hK _ _ ?_⟩;clear hK K;refine A0d fun K hK=>alF ?_
  change Oper.wp _ _ _ _ _ _
  refine A3h A6d (ops:= #[]) rfl _ _ _ rfl B _ sA.code.length _ rfl (HX8.out.code.alloc _) _ 1 _ rfl (Src.litS (m:=1) rfl rfl A6d.1) (by omega) (by unfold maxLen;omega) (Nat.le_trans HB8.out (by simp)) ?_
  intro v9 w9 hown9 hg9 hb9
  have hown8:w9.ownsRow B A2e 7 v9 (sA.code.length+1) ((sA.code++[(⟨132,(r7:Nat),(r8:Nat) -4,[],[],[],[]⟩:IN)]).flatMap IN.cells):=(by rw[List.flatMap_append];exact hown9)
  obtain⟨a9,c9,rfl,-,-⟩:=Ss.ofOwn IN.cells_length (by decide) hown8;have HAP:=hzz (HX8.out.app hg9 hown8)
  have hSn:SW g q (.slice ca sA.code.length cc) w9:=⟨A0a HAP.out.2.2 1 rfl,A0a HAP.out.2.2 0 rfl⟩;clear hSw hSx hal hown9 hown8 hg9 hb9;have hSw:=hSn;clear hSn;refine⟨hSw,hK _ _ ?_⟩
  clear hK K
  iterate 2
   refine A0d fun K hK=>tkF ?_
   go_simp
   try go_bits
   refine hK _ _ ?_;clear hK K
  have fo:=A0n HAP.out.2.2 1;have lto:=A0r HAP.out.2.2;have co:=A0a HAP.out.2.2 1 rfl;refine A1u (laF ?_);go_step
  have hm:=HA.out.appd (x:=⟨132,(r7:Nat),(r8:Nat) -4,[],[],[],[]⟩) (fun c=>B9g c r7 ((r8:Nat) -4) (by omega) (by omega)) HAP.out.1 (HK8.out.trans HAP.out.2.1);go_end0
  exact⟨rfl,(hm.mono (show _<=45 by have:=HLW.out;omega) nlz nlz (show 0+1<=_ by omega)).undec (.inr ⟨by have:=hbd0;omega,Nat.le_refl _⟩) (.inl nlz) (.inl nlz)⟩
 ·clear hr;clear d2;have HC:=hzz (HM2.out.records HI1 HLM.out (by omega))
  go_wp2_with fail
  refine HC.out.mono ?_;rintro e w3 ⟨rfl,hm⟩;have HM3:=hzz hm;clear HC hm HM2 t2 lt2;have t3:=HM3.out.t;have lt3:=HM3.out.lt
  go_wp2_with fail
  go_end0;exact⟨rfl,(HM3.out.mono (show _<=45 by have:=HLW.out;omega) nlz nlz (show 0+1<=_ by omega)).undec (.inr ⟨by have:=hbd0;omega,Nat.le_refl _⟩) (.inl nlz) (.inl nlz)⟩
 ·clear hr;clear d2;obtain⟨sA,hA⟩:=HM2.out;have HA:=hzz hA;obtain⟨ca,cc,ta,tc,ma,mc,hx⟩:=hA.wr;have HX:=hzz hx;obtain⟨c0,c1,c2,c3,c4,c5,f1,f2,f3,f4,f5,lt⟩:=hx.box
  have hlen:=hA.len (by have:=HPT.out;have:=HLW.out;omega);have HBB:=hzz hA.hB;clear hA hx c2 c3 c4 c5 f2 f3 f4 f5 t2 lt2 HM2
  go_upto_region 42 with(at_builtin;refine A0q A6d rfl _ _ rfl B _ sA.code.length _ rfl HX.out.code _ 1 _ _ rfl rfl rfl rfl (by omega) (by unfold maxLen;omega) HBB.out ?_;intro v9 w9 hown9 hg9 hb9;have hown8:w9.ownsRow B A2e 7 v9 (sA.code.length+1) ((sA.code++[(⟨18,0,0,[],[],[83],[104,105]⟩:IN)]).flatMap IN.cells):=(by rw[List.flatMap_append];exact hown9);obtain⟨a9,c9,rfl,-,-⟩:=Ss.ofOwn IN.cells_length (by decide) hown8;have HAP:=hzz (HX.out.app hg9 hown8);have fo:=A0n HAP.out.2.2 1;have lto:=A0r HAP.out.2.2;have co:=A0a HAP.out.2.2 1 rfl;clear hown9 hown8 hg9 hb9 c0 c1 f1 lt)
  have hm:=HA.out.appd (x:=⟨18,0,0,[],[],[83],[104,105]⟩) E1t HAP.out.1 HAP.out.2.1;generalize w9.setCell ⟨g,1,none⟩ (.slice a9 (sA.code.length+1) c9)=w3 at*;have HM3:=hzz hm
  clear hm HA HX HBB HAP hlen fo lto co;have t3:=HM3.out.t;have lt3:=HM3.out.lt
  have HC:=hzz (HM3.out.op 58 7 2 (A1v (by decide) (by omega)) (by show A0w (A0g 58)<=2;decide) (by have:=HPT.out;have:=HLW.out;omega))
  go_wp2_with fail
  refine HC.out.mono ?_;rintro e w4 ⟨rfl,hm⟩;have HM4:=hzz hm;clear HC hm HM3 t3 lt3;have t4:=HM4.out.t;have lt4:=HM4.out.lt
  go_wp2_with fail
  go_end0;exact⟨rfl,(HM4.out.mono (show _<=45 by have:=HLW.out;omega) nlz nlz (show 0+1<=_ by omega)).undec (.inr ⟨by have:=hbd0;omega,Nat.le_refl _⟩) (.inl nlz) (.inl nlz)⟩
 ·clear hr;clear d2;have HC:=hzz (HM2.out.op 25 7 2 (A1v (by decide) (by omega)) (by show A0w (A0g 25)<=2;decide) (by have:=HPT.out;have:=HLW.out;omega))
  go_wp2_with fail
  refine HC.out.mono ?_;rintro e w3 ⟨rfl,hm⟩;have HM3:=hzz hm;clear HC hm HM2 t2 lt2;have t3:=HM3.out.t;have lt3:=HM3.out.lt
  have HC:=hzz (HM3.out.name 184 [115,121,115] [112,114,105,110,116,84,101,120,116] [40,91,66,41,86] (fun l=>A2u l _ (by decide)) (by have:=HPT.out;have:=HLW.out;omega))
  go_wp2_with fail
  refine HC.out.mono ?_;rintro e w4 ⟨rfl,hm⟩;have HM4:=hzz hm;clear HC hm HM3 t3 lt3;have t4:=HM4.out.t;have lt4:=HM4.out.lt
  go_wp2_with fail
  go_end0;exact⟨rfl,(HM4.out.mono (show _<=45 by have:=HLW.out;omega) nlz nlz (show 0+1<=_ by omega)).undec (.inr ⟨by have:=hbd0;omega,Nat.le_refl _⟩) (.inl nlz) (.inl nlz)⟩
 clear hr
 go_upto_region 2 with fail
 obtain⟨sA,hA⟩:=HM2.out;have HA:=hzz hA;obtain⟨ca,cc,ta,tc,ma,mc,hx⟩:=hA.wr;have HX6:=hzz (hx.below (brz.drew));have HK6:=hzz (show A0z B q w2 w2.drew from A0z.of (brz.drew))
 have hlen:=hA.len (by have:=HPT.out;omega);have HBB:=hzz (show B<=w2.drew.heap.size from hA.hB);have hSw:SW g q (.slice ca sA.code.length cc) w2.drew:=⟨A0a HX6.out.k 1 rfl,A0a HX6.out.k 0 rfl⟩
 have l0:∀z,SW g q (.slice ca sA.code.length cc) z->z.cell? ⟨g,1,none⟩=some (.slice ca sA.code.length cc):=fun z h=>h.1
 have l1:∀z,SW g q (.slice ca sA.code.length cc) z->z.cell? ⟨g,0,none⟩=some (.pointer (some ⟨q,0,none⟩)):=fun z h=>h.2
 clear hA hx t2 lt2 b2 d2 HM2
 refine A0t (SW g q (.slice ca sA.code.length cc)) 21 [(0,true),(1,true),(2,true),(3,true),(4,true),(5,true),(6,true),(7,true),(8,true),(10,true),(11,true),(12,true),(13,true),(9,false),(14,false),(15,true),(16,true),(17,false),(18,false),(19,true),(20,true)] (by kernel_rfl) (by kernel_rfl) (fun c a d v w h=>by cases d<;>exact h) ?_
 generalize w2.drew=W6 at*
 iterate 13
  refine A0d fun K hK=>tkF ?_
  go_simp
  try go_bits
  refine hK _ _ ?_;clear hK K
 refine A0d fun K hK=>alF ?_
 go_step;refine(A2w W6 q 3 HX6.out.tape (by omega) (by omega)).mono ?_;rintro e w7 ⟨r7,rfl,hr7,ht7,hk7⟩;have HX7:=hzz (HX6.out.turned hk7 ht7);have HK7:=hzz (HK6.out.trans (A0z.one hk7))
 have HB7:=hzz (Nat.le_trans HBB.out hk7.size);have hSx:SW g q (.slice ca sA.code.length cc) w7:=⟨A0a HX7.out.k 1 rfl,A0a HX7.out.k 0 rfl⟩;clear hSw HX6 HK6 HBB ht7 hk7;have hSw:=hSx;clear hSx
 go_simp
 first|refine⟨hSw,hK _ _ ?_⟩|refine hK _ _ ?_
 clear hK K;refine A0d fun K hK=>alF ?_
 go_step;refine(A2w w7 q 9 HX7.out.tape (by omega) (by omega)).mono ?_;rintro e w8 ⟨r8,rfl,hr8,ht8,hk8⟩;have HX8:=hzz (HX7.out.turned hk8 ht8);have HK8:=hzz (HK7.out.trans (A0z.one hk8))
 have HB8:=hzz (Nat.le_trans HB7.out hk8.size);have hSx:SW g q (.slice ca sA.code.length cc) w8:=⟨A0a HX8.out.k 1 rfl,A0a HX8.out.k 0 rfl⟩;clear hSw HX7 HK7 HB7 ht8 hk8;have hSw:=hSx;clear hSx
 go_simp
 first|refine⟨hSw,hK _ _ ?_⟩|refine hK _ _ ?_
 clear hK K
 iterate 2
  refine A0d fun K hK=>tkF ?_
  go_simp
  try go_bits
  refine hK _ _ ?_;clear hK K
 refine A0d fun K hK=>alF ?_
 go_step;have hal:Below w8.heap.size w8 (w8.alloc (.cells #[.int .u8 132,.int .i64 (r7:Nat),.int .i64 ((r8:Nat) -4),.string ⟨#[]⟩,.string ⟨#[]⟩,.string ⟨#[]⟩,.string ⟨#[]⟩] A2e)):=A0f _ _
 have hSx:SW g q (.slice ca sA.code.length cc) (w8.alloc (.cells #[.int .u8 132,.int .i64 (r7:Nat),.int .i64 ((r8:Nat) -4),.string ⟨#[]⟩,.string ⟨#[]⟩,.string ⟨#[]⟩,.string ⟨#[]⟩] A2e)):=⟨A0c hal hSw.1,A0c hal hSw.2⟩
 refine⟨hSx,hK _ _ ?_⟩;clear hK K;refine A0d fun K hK=>alF ?_
 change Oper.wp _ _ _ _ _ _
 refine A3h A6d (ops:= #[]) rfl _ _ _ rfl B _ sA.code.length _ rfl (HX8.out.code.alloc _) _ 1 _ rfl (Src.litS (m:=1) rfl rfl A6d.1) (by omega) (by unfold maxLen;omega) (Nat.le_trans HB8.out (by simp)) ?_
 intro v9 w9 hown9 hg9 hb9
 have hown8:w9.ownsRow B A2e 7 v9 (sA.code.length+1) ((sA.code++[(⟨132,(r7:Nat),(r8:Nat) -4,[],[],[],[]⟩:IN)]).flatMap IN.cells):=(by rw[List.flatMap_append];exact hown9)
 obtain⟨a9,c9,rfl,-,-⟩:=Ss.ofOwn IN.cells_length (by decide) hown8;have HAP:=hzz (HX8.out.app hg9 hown8)
 have hSn:SW g q (.slice ca sA.code.length cc) w9:=⟨A0a HAP.out.2.2 1 rfl,A0a HAP.out.2.2 0 rfl⟩;clear hSw hSx hal hown9 hown8 hg9 hb9;have hSw:=hSn;clear hSn;refine⟨hSw,hK _ _ ?_⟩;clear hK K
 iterate 2
  refine A0d fun K hK=>tkF ?_
  go_simp
  try go_bits
  refine hK _ _ ?_;clear hK K
 have fo:=A0n HAP.out.2.2 1;have lto:=A0r HAP.out.2.2;have co:=A0a HAP.out.2.2 1 rfl;refine A1u (laF ?_);go_step
 have hm:=HA.out.appd (x:=⟨132,(r7:Nat),(r8:Nat) -4,[],[],[],[]⟩) (fun c=>B9g c r7 ((r8:Nat) -4) (by omega) (by omega)) HAP.out.1 (HK8.out.trans HAP.out.2.1);go_end0
 exact⟨rfl,(hm.mono (show _<=45 by have:=HLW.out;omega) nlz nlz (show 0+1<=_ by omega)).undec (.inr ⟨by have:=hbd0;omega,Nat.le_refl _⟩) (.inl nlz) (.inl nlz)⟩
theorem StX.lift{k kt km n:Nat}{s t:WX}(h:StX k kt km n {s with dp:=s.dp+1} t):StX k kt km n s {t with dp:=t.dp-1}:=by
 have hd:=h.dp;dsimp only at hd;exact⟨⟨h.inv.ins,h.inv.tr,h.inv.mp⟩,h.pre,by dsimp only;omega,h.w,h.t,h.m,h.bd,h.lo⟩
theorem B3s(j:Nat)(hj:j<=3)(hs:D8m j):B9e j:=by
 intro w B q g s h1 h2 hw hi hl hmp hB;have hlow: -100<=s.dp:=by omega
 have HST:=hzz hs;have HMP:=hzz hmp;have HLM:=hzz hl;have HBW:=hzz hB;obtain⟨ca,cc,ta,tc,ma,mc,hx⟩:=hw;have HX:=hzz hx
 have HI0:=hzz (show B4u {s with dp:=s.dp+1}from⟨hi.ins,hi.tr,hi.mp⟩);have hdl: -100<=s.dp:=hlow;obtain⟨c0,c1,c2,c3,c4,c5,f1,f2,f3,f4,f5,lt⟩:=hx.box
 clear hx c1 c2 c3 c5 f1 f2 f3 f5 hi hl hmp hB hs;go_enter Tryz.func160,Tryz.ntmps160
 go_upto_region 1 with fail
 obtain⟨hx1,hk1⟩:=WrX.put (s':={s with dp:=s.dp+1}) (ca:=ca) (cc:=cc) (ta:=ta) (tc:=tc) (ma:=ma) (mc:=mc) (q:=q) (B:=B) 4 (.int .i64 (s.dp+1)) HX.out.k rfl HX.out.code HX.out.traps HX.out.maps HX.out.each HX.out.tape HX.out.gB HX.out.qB
 obtain⟨s1,hs1⟩:∃s1:WX,s1={s with dp:=s.dp+1}:=⟨_,rfl⟩;have HS1:=hzz hs1;rw[<-hs1]at hx1 HI0;have HM1:=hzz (Ms.zero (show WrS _ B q g s1 from⟨_,_,_,_,_,_,hx1⟩) HI0.out hk1 HBW.out)
 have hl1:Lim (22+10*j) s1:=by rw[hs1];exact⟨HLM.out.up,HLM.out.lo⟩
 have hp1:MpB (10*j+5) s1:=by rw[hs1];exact⟨HMP.out.m,HMP.out.t⟩
 have HL1:=hzz hl1;have HP1:=hzz hp1;have HD1:=hzz (show s1.dp=s.dp+1 from by rw[hs1]);clear hx1 hk1 c0 c4 f4 lt HX hl1 hp1 HMP HLM hs1;generalize w.setCell ⟨g,4,none⟩ (.int .i64 (s.dp+1))=w1 at*
 have t1:=HM1.out.t;have lt1:=HM1.out.lt;have HC:=hzz (HM1.out.next 3 (by omega) (by omega))
 go_wp2_with fail
 refine HC.out.mono ?_;rintro e w2 ⟨r,rfl,hr,hm,hk⟩;have HM2:=hzz hm;clear HC hm hk HM1 t1 lt1;have hr3:r<=2:=by omega
 go_wp2_with fail
 go_loopg [2] (r+1) (fun gn i wr=>∃k:Nat,k<=r+1/\gn=r+1-k/\i= .int .i64 ((r:Nat)+1-(k:Nat))/\Hid (Ms w B q g s1 (5*k) 0 0 0 wr))
 case atStart=>exact⟨0,by omega,by omega,by go_num,HM2⟩
 obtain⟨k,hk,rfl,rfl,HMK⟩:=hrel;by_cases hlt:k<r+1
 ·have e1:decide ((r:Int)+1-(k:Nat)>0)=true:=decide_eq_true (by omega);have e2:decide (0<(r:Int)+1-(k:Nat))=true:=decide_eq_true (by omega);obtain⟨sk,hsk⟩:=HMK.out
  have HSK:=hzz hsk
  have HC:=hzz (HST.out wr B q g sk (by have:=hsk.st.dp;have:=HD1.out;omega) (by have:=hsk.st.dp;have:=HD1.out;omega) hsk.wr hsk.st.inv (HL1.out.step hsk.st (by omega)) (HP1.out.step hsk.st (by omega) (by omega)) hsk.hB)
  clear hsk
  go_wp2_with fail
  refine HC.out.mono ?_;rintro e w4 ⟨rfl,hm⟩;have HM4:=hzz (Ms.then HSK.out hm);clear HC hm HSK
  go_wp2_with fail
  go_roundg (r+1-(k+1))
  case measure=>omega
  exact⟨k+1,by omega,rfl,by go_num,hzz (HM4.out.mono (by omega) nlz nlz nlz)⟩
 have hke:k=r+1:=by omega
 subst hke;obtain⟨sk,hsk⟩:=HMK.out;have HSK:=hzz hsk;obtain⟨ca5,cc5,ta5,tc5,ma5,mc5,hx5⟩:=hsk.wr;have HX5:=hzz hx5;have c4:=hx5.box.c4;have f4:=hx5.box.f4;have lt:=hx5.box.lt
 have hdk:sk.dp=s.dp+1:=by rw[hsk.st.dp,HD1.out]
 rw[hdk]at c4;have HDK:=hzz hdk;have e3:(r:Int)+1-(r+1:Nat)=0:=by omega
 clear hsk hx5 hdk hk hlt;rw[e3];clear e3
 go_wp2_with fail
 go_end0
 obtain⟨hx6,hk6⟩:=WrX.put (s':={sk with dp:=sk.dp-1}) (ca:=ca5) (cc:=cc5) (ta:=ta5) (tc:=tc5) (ma:=ma5) (mc:=mc5) (q:=q) (B:=B) 4 (.int .i64 s.dp) HX5.out.k (by rw[show s.dp=sk.dp-1 from by rw[HDK.out];omega];rfl) HX5.out.code HX5.out.traps HX5.out.maps HX5.out.each HX5.out.tape HX5.out.gB HX5.out.qB
 exact⟨rfl,_,(StX.lift (by have h:=HSK.out.st;rw[HS1.out]at h;exact h)).mono (by omega) nlz nlz nlz,⟨_,_,_,_,_,_,hx6⟩,HSK.out.kp.trans hk6,Nat.le_trans HSK.out.hB hk6.size⟩
abbrev MdT:=59
theorem C4c:B2z 1/\D8m 3:=by
 obtain⟨i1,l1⟩:=B7a 1 (by omega);obtain⟨i2,l2⟩:=B7a 2 (by omega);have h0:D8m 0:=A5r 0 (hzz i1) (hzz i2) (hzz l2) (fun h=>absurd h (by omega))
 have h1:D8m 1:=A5r 1 (hzz i1) (hzz i2) (hzz l2) (fun _=>B3s 0 (by omega) h0);have h2:D8m 2:=A5r 2 (hzz i1) (hzz i2) (hzz l2) (fun _=>B3s 1 (by omega) h1)
 exact⟨i1,A5r 3 (hzz i1) (hzz i2) (hzz l2) (fun _=>B3s 2 (by omega) h2)⟩
structure B3r(m:UM):Prop where
 ds:m.ds=[40,73,41,73]
 sz:0<=m.sk/\m.sk<=64/\0<=m.lo/\m.lo<=64
 pos:0<m.code.length
 ins:∀x∈m.code,MX (m.code.length-1) x
 wt:wtX m.code<=4096
 tr:∀t∈m.traps,TrM (m.code.length-1) t
 mp:∀p∈m.maps,MpM (m.code.length-1) p
 n1:m.traps.length<=255
 n2:m.maps.length<=255
def C8q(q:Nat)(nm:List UInt8)(w:World)(e:Ending)(w':World):Prop:=∃m:UM,e= .returned (.agg m.cells.toArray)/\m.nm=nm/\B3r m/\m.Own w' w.heap.size/\A6b w' q/\A1e q w w'
theorem B3r.of{s:WX}{k kt km n:Nat}(hs:StX k kt km n ⟨[],[],[],0,60⟩ s)(hk:k<=1600)(h1:kt=0)(h2:km=0)(st:Bool)(nm:List UInt8)(sk lo:Int)(hz:0<=sk/\sk<=64/\0<=lo/\lo<=64)(ca:Option Addr)(cn cc:Nat)(ta:Option Addr)(tn tc:Nat)(ma:Option Addr)(mn mc:Nat)(b:Bool):
  B3r ⟨st,nm,[40,73,41,73],sk,lo,ca,cn,cc,s.code++[⟨172,0,0,[],[],[],[]⟩],ta,tn,tc,if b then s.traps else [],ma,mn,mc,if b then s.maps else []⟩:=by
 have hl:(s.code++[(⟨172,0,0,[],[],[],[]⟩:IN)]).length-1=s.code.length:=by simp
 have hw:=hs.w;have ht:=hs.t;have hm:=hs.m;unfold B0j wtX at hw;simp only[List.map_nil,List.sum_nil,List.length_nil]at hw ht hm;refine⟨rfl,hz,by simp,?_,?_,?_,?_,?_,?_⟩
 ·dsimp only;rw[hl];intro x hx
  rcases List.mem_append.1 hx with h|h
  ·exact hs.inv.ins x h
  rw[List.mem_singleton.1 h];exact A4g (by decide) _
 ·show wtX (s.code++[(⟨172,0,0,[],[],[],[]⟩:IN)])<=4096;rw[C8u,C9u,show A7w (⟨172,0,0,[],[],[],[]⟩:IN)=1 from by decide];unfold wtX;omega
 ·dsimp only;rw[hl];intro t h
  cases b
  ·cases h
  exact hs.inv.tr t h
 ·dsimp only;rw[hl];intro t h
  cases b
  ·cases h
  exact hs.inv.mp t h
 ·dsimp only
  cases b
  ·exact Nat.zero_le _
  show s.traps.length<=255;omega
 dsimp only
 cases b
 ·exact Nat.zero_le _
 show s.maps.length<=255;omega
theorem Ms.kp{w0 w:World}{B q g:Nat}{s0:WX}{k kt km n:Nat}(h:Ms w0 B q g s0 k kt km n w):A0z B q w0 w:=by
 obtain⟨s,h⟩:=h;exact h.kp
def SB(g:Nat)(a b c:Value)(z:World):Prop:=z.cell? ⟨g,1,none⟩=some a/\z.cell? ⟨g,2,none⟩=some b/\z.cell? ⟨g,3,none⟩=some c
theorem C0c(w:World)(q:Nat)(nm:List UInt8)(most:Int)(ht:A6b w q):
  Calls Tryz.prog 39 #[.pointer (some ⟨q,0,none⟩),.bool false,.string ⟨nm.toArray⟩,.int .i64 most] w (C8q q nm w):=by
 have HST:=hzz C4c.2;have HI1:=hzz C4c.1;have HT:=hzz ht;have HPT:=hzz (show B0j ⟨[],[],[],0,60⟩<=100000 from by decide);have HLW:=hzz (Nat.le_refl 0)
 have HLM:=hzz (show Lim 60 ⟨[],[],[],0,60⟩from⟨by decide,by decide⟩);have HMP:=hzz (show MpB 40 ⟨[],[],[],0,60⟩from⟨by decide,by decide⟩);clear ht;go_enter Tryz.func39,Tryz.ntmps39
 go_upto_region 2 with fail
 have ha1:=A0f w (.cells #[.bool false,.string ⟨#[]⟩,.string ⟨#[]⟩,.int .i64 0,.int .i64 0,.slice none 0 0,.slice none 0 0,.slice none 0 0] MdT)
 have ha2:=A0f (w.alloc (.cells #[.bool false,.string ⟨#[]⟩,.string ⟨#[]⟩,.int .i64 0,.int .i64 0,.slice none 0 0,.slice none 0 0,.slice none 0 0] MdT)) (.cells #[.pointer (some ⟨q,0,none⟩),.slice none 0 0,.slice none 0 0,.slice none 0 0,.int .i64 0,.int .i64 60] WrT)
 have HB2:=hzz (ha1.trans (ha2.mono (by simp)))
 have HZ2:=hzz (A0e (heap_alloc_last w (.cells #[.bool false,.string ⟨#[]⟩,.string ⟨#[]⟩,.int .i64 0,.int .i64 0,.slice none 0 0,.slice none 0 0,.slice none 0 0] MdT)) ha2)
 have hw2:((w.alloc (.cells #[.bool false,.string ⟨#[]⟩,.string ⟨#[]⟩,.int .i64 0,.int .i64 0,.slice none 0 0,.slice none 0 0,.slice none 0 0] MdT)).alloc (.cells #[.pointer (some ⟨q,0,none⟩),.slice none 0 0,.slice none 0 0,.slice none 0 0,.int .i64 0,.int .i64 60] WrT)).heap[w.heap.size+1]? =some (.cells #[.pointer (some ⟨q,0,none⟩),.slice none 0 0,.slice none 0 0,.slice none 0 0,.int .i64 0,.int .i64 60] WrT (0,0)):=by
  have h:=heap_alloc_last (w.alloc (.cells #[.bool false,.string ⟨#[]⟩,.string ⟨#[]⟩,.int .i64 0,.int .i64 0,.slice none 0 0,.slice none 0 0,.slice none 0 0] MdT)) (.cells #[.pointer (some ⟨q,0,none⟩),.slice none 0 0,.slice none 0 0,.slice none 0 0,.int .i64 0,.int .i64 60] WrT)
  rwa [show(w.alloc (.cells #[.bool false,.string ⟨#[]⟩,.string ⟨#[]⟩,.int .i64 0,.int .i64 0,.slice none 0 0,.slice none 0 0,.slice none 0 0] MdT)).heap.size=w.heap.size+1 by simp]at h
 have HM2:=hzz (Ms.zero (s:=⟨[],[],[],0,60⟩) (show WrS ((w.alloc (.cells #[.bool false,.string ⟨#[]⟩,.string ⟨#[]⟩,.int .i64 0,.int .i64 0,.slice none 0 0,.slice none 0 0,.slice none 0 0] MdT)).alloc (.cells #[.pointer (some ⟨q,0,none⟩),.slice none 0 0,.slice none 0 0,.slice none 0 0,.int .i64 0,.int .i64 60] WrT)) w.heap.size q (w.heap.size+1) ⟨[],[],[],0,60⟩from⟨none,0,none,0,none,0,hw2,World.ownsRow_nil _ _ _ _,World.ownsRow_nil _ _ _ _,World.ownsRow_nil _ _ _ _,(fun p hp=>by cases hp),(HT.out.below ha1).below ha2,by omega,HT.out.lt⟩) ⟨(fun x hx=>by cases hx),(fun x hx=>by cases hx),(fun x hx=>by cases hx)⟩ (A0z.refl _ _ _) HB2.out.size)
 clear ha1 ha2 hw2
 try simp only[show(w.alloc (.cells #[.bool false,.string ⟨#[]⟩,.string ⟨#[]⟩,.int .i64 0,.int .i64 0,.slice none 0 0,.slice none 0 0,.slice none 0 0] MdT)).heap.size=w.heap.size+1 by simp]
 generalize(w.alloc (.cells #[.bool false,.string ⟨#[]⟩,.string ⟨#[]⟩,.int .i64 0,.int .i64 0,.slice none 0 0,.slice none 0 0,.slice none 0 0] MdT)).alloc (.cells #[.pointer (some ⟨q,0,none⟩),.slice none 0 0,.slice none 0 0,.slice none 0 0,.int .i64 0,.int .i64 60] WrT)=w2 at*
 obtain⟨g,hg⟩:=exz (w.heap.size+1);rw[<-hg]at HM2⊢;have HGG:=hzz hg;have t2:=HM2.out.t;have lt2:=HM2.out.lt;clear hg
 have HZK:=hzz (show ∀W,A0z w.heap.size q w2 W->W.heap[w.heap.size]? =some (.cells #[.bool false,.string ⟨#[]⟩,.string ⟨#[]⟩,.int .i64 0,.int .i64 0,.slice none 0 0,.slice none 0 0,.slice none 0 0] MdT (0,0))from fun W h=>h.row HZ2.out (by have:=HT.out.lt;omega) (by decide) (by decide) (by decide) (by decide))
 have HKW:=hzz (show A0z w.heap.size q w w2 from A0z.of HB2.out)
 have HC:=hzz (HM2.out.op 21 1 2 (A1v (by decide) (by omega)) (by show A0w (A0g 21)<=2;decide) (by have:=HPT.out;have:=HLW.out;omega))
 go_wp2_with fail
 refine HC.out.mono ?_;rintro e w3 ⟨rfl,hm⟩;have HM3:=hzz hm;clear HC hm HM2 t2 lt2;have t3:=HM3.out.t;have lt3:=HM3.out.lt
 have HC:=hzz (HM3.out.number 3 (by omega) (by have:=HPT.out;have:=HLW.out;omega))
 go_wp2_with fail
 refine HC.out.mono ?_;rintro e w4 ⟨rfl,hm⟩;have HM4:=hzz hm;clear HC hm HM3 t3 lt3;have t4:=HM4.out.t;have lt4:=HM4.out.lt
 have HC:=hzz (HM4.out.op 96 0 1 (A4g (by decide)) (by show A0w (A0g 96)<=1;decide) (by have:=HPT.out;have:=HLW.out;omega))
 go_wp2_with fail
 refine HC.out.mono ?_;rintro e w5 ⟨rfl,hm⟩;have HM5:=hzz hm;clear HC hm HM4 t4 lt4;have t5:=HM5.out.t;have lt5:=HM5.out.lt
 have HC:=hzz (HM5.out.op 25 0 2 (A1v (by decide) (by omega)) (by show A0w (A0g 25)<=2;decide) (by have:=HPT.out;have:=HLW.out;omega))
 go_wp2_with fail
 refine HC.out.mono ?_;rintro e w6 ⟨rfl,hm⟩;have HM6:=hzz hm;clear HC hm HM5 t5 lt5;have t6:=HM6.out.t;have lt6:=HM6.out.lt
 have HC:=hzz (HM6.out.name 180 [65] [102] [73] (fun l=>A2u l _ (by decide)) (by have:=HPT.out;have:=HLW.out;omega))
 go_wp2_with fail
 refine HC.out.mono ?_;rintro e w7 ⟨rfl,hm⟩;have HM7:=hzz hm;clear HC hm HM6 t6 lt6;have t7:=HM7.out.t;have lt7:=HM7.out.lt
 have HC:=hzz ((HM7.out.below (A0f w7 (.cells #[.int .u8 96,.int .u8 104,.int .u8 130] 5))).next 3 (by omega) (by omega))
 go_wp2_with fail
 refine HC.out.mono ?_;rintro e w8 ⟨r8,rfl,hr8,hm,hk⟩;obtain⟨o8,ho8,hL8⟩:=A5v w7 w8 q [96,104,130] hk (by have:=HM7.out.q;omega) r8 (by simp only[List.length_cons,List.length_nil];omega)
 have HM8:=hzz hm;have HTB:=hzz (A7z [96,104,130] (by decide) o8 hL8);clear HC hm hk HM7 t7 lt7 hL8;have t8:=HM8.out.t;have lt8:=HM8.out.lt
 have HC:=hzz (HM8.out.op o8 0 1 HTB.out.1 HTB.out.2 (by have:=HPT.out;have:=HLW.out;omega))
 go_wp2_with fail
 refine HC.out.mono ?_;rintro e w9 ⟨rfl,hm⟩;have HM9:=hzz hm;clear HC hm HM8 t8 lt8;have t9:=HM9.out.t;have lt9:=HM9.out.lt;obtain⟨sA,hA⟩:=HM9.out;have HA:=hzz hA;clear hA HM9
 have HC:=hzz (B0h w9 w.heap.size q g sA 172 0 HA.out.wr (HA.out.len (by have:=HPT.out;omega)) HA.out.hB)
 go_wp2_with fail
 refine HC.out.mono ?_;rintro e w10 ⟨rfl,hs9,hk9⟩;obtain⟨ca,cc,ta,tc,ma,mc,hx⟩:=hs9;have HX:=hzz hx;have HKA:=hzz (HA.out.kp.trans hk9);clear HC hx hk9 t9 lt9
 have hn9:(sA.app ⟨172,0,0,[],[],[],[]⟩).code.length=sA.code.length+1:=by unfold WX.app;simp
 have HZ:=hzz (HZK.out w10 HKA.out)
 go_upto_region 10 with fail
 have c1:=HX.out.box.c1;have lt:=HX.out.box.lt;rw[hn9]at c1
 go_wp2_with (refine wpList_store_row rfl _ _ _ rfl _ (UM.cells (⟨false,nm,[40,73,41,73],8,2,ca,sA.code.length+1,cc,sA.code++[⟨172,0,0,[],[],[],[]⟩],none,0,0,[],none,0,0,[]⟩:UM)).toArray rfl rfl _ _ HZ.out A5t rfl (D8h _) ?_)
 refine bodyPost_ret (results_cell_row rfl _ _ w.heap.size MdT (UM.cells (⟨false,nm,[40,73,41,73],8,2,ca,sA.code.length+1,cc,sA.code++[⟨172,0,0,[],[],[],[]⟩],none,0,0,[],none,0,0,[]⟩:UM)).toArray (0,0) _ rfl (setRow_heap _ _ _ _ _ _ HZ.out) Tryz.underlying59 rfl A5t) rfl ?_
 have hkt:=A1q (cs':=(UM.cells (⟨false,nm,[40,73,41,73],8,2,ca,sA.code.length+1,cc,sA.code++[⟨172,0,0,[],[],[],[]⟩],none,0,0,[],none,0,0,[]⟩:UM)).toArray) HZ.out
 have hbl:=below_setRow (B:=w.heap.size) (w:=w10) (Nat.le_refl w.heap.size) (UM.cells (⟨false,nm,[40,73,41,73],8,2,ca,sA.code.length+1,cc,sA.code++[⟨172,0,0,[],[],[],[]⟩],none,0,0,[],none,0,0,[]⟩:UM)).toArray
 have hco:=HX.out.code;have htr:=HX.out.traps;have hmp:=HX.out.maps;rw[hn9]at hco
 refine⟨(⟨false,nm,[40,73,41,73],8,2,ca,sA.code.length+1,cc,sA.code++[⟨172,0,0,[],[],[],[]⟩],none,0,0,[],none,0,0,[]⟩:UM),rfl,rfl,(B3r.of HA.out.st (by omega) rfl rfl false nm 8 2 (by omega) ca _ cc none 0 0 none 0 0 false),⟨A0k hco hkt (by decide),World.ownsRow_nil _ _ _ _,World.ownsRow_nil _ _ _ _,(fun p hp=>by cases hp)⟩,(by
  obtain⟨ba,bn,bc,bs,k,h1,h2,h3,h4,h5⟩:=HX.out.tape;have hq:=HX.out.qB;refine⟨ba,bn,bc,bs,k,h1.belowB hbl hq,⟨h2.1,fun hn=> ?_⟩,h3,h4,h5⟩;obtain⟨b,off,hx,hlt,hc⟩:=h2.2 hn
  have:=h5 hn b off hx;refine⟨b,off,hx,Nat.lt_of_lt_of_le hlt hbl.size,fun i hi=> ?_⟩;rw[<-hc i hi];unfold World.cell?;rw[hbl.block b (by show b<w.heap.size;omega)]),?_⟩
 exact⟨hbl.os.trans (HKW.out.trans HKA.out).os,hbl.tape.trans (HKW.out.trans HKA.out).tape,hbl.output.trans (HKW.out.trans HKA.out).output,Nat.le_trans (HKW.out.trans HKA.out).size hbl.size,fun k hk hq=>by rw[hbl.block k hk];exact(HKW.out.trans HKA.out).block k hk hq (.inl hk)⟩
theorem D0p(w:World)(q:Nat)(nm:List UInt8)(most:Int)(hmo:2<=most/\most<=100)(ht:A6b w q):
  Calls Tryz.prog 39 #[.pointer (some ⟨q,0,none⟩),.bool true,.string ⟨nm.toArray⟩,.int .i64 most] w (C8q q nm w):=by
 have HST:=hzz C4c.2;have HI1:=hzz C4c.1;have HT:=hzz ht;have HMO:=hzz hmo;have HPT:=hzz (show B0j ⟨[],[],[],0,60⟩<=100000 from by decide);have HLW:=hzz (Nat.le_refl 0)
 have HLM:=hzz (show Lim 60 ⟨[],[],[],0,60⟩from⟨by decide,by decide⟩);have HMP:=hzz (show MpB 40 ⟨[],[],[],0,60⟩from⟨by decide,by decide⟩);clear ht hmo;go_enter Tryz.func39,Tryz.ntmps39
 go_upto_region 2 with fail
 have ha1:=A0f w (.cells #[.bool false,.string ⟨#[]⟩,.string ⟨#[]⟩,.int .i64 0,.int .i64 0,.slice none 0 0,.slice none 0 0,.slice none 0 0] MdT)
 have ha2:=A0f (w.alloc (.cells #[.bool false,.string ⟨#[]⟩,.string ⟨#[]⟩,.int .i64 0,.int .i64 0,.slice none 0 0,.slice none 0 0,.slice none 0 0] MdT)) (.cells #[.pointer (some ⟨q,0,none⟩),.slice none 0 0,.slice none 0 0,.slice none 0 0,.int .i64 0,.int .i64 60] WrT)
 have HB2:=hzz (ha1.trans (ha2.mono (by simp)))
 have HZ2:=hzz (A0e (heap_alloc_last w (.cells #[.bool false,.string ⟨#[]⟩,.string ⟨#[]⟩,.int .i64 0,.int .i64 0,.slice none 0 0,.slice none 0 0,.slice none 0 0] MdT)) ha2)
 have hw2:((w.alloc (.cells #[.bool false,.string ⟨#[]⟩,.string ⟨#[]⟩,.int .i64 0,.int .i64 0,.slice none 0 0,.slice none 0 0,.slice none 0 0] MdT)).alloc (.cells #[.pointer (some ⟨q,0,none⟩),.slice none 0 0,.slice none 0 0,.slice none 0 0,.int .i64 0,.int .i64 60] WrT)).heap[w.heap.size+1]? =some (.cells #[.pointer (some ⟨q,0,none⟩),.slice none 0 0,.slice none 0 0,.slice none 0 0,.int .i64 0,.int .i64 60] WrT (0,0)):=by
  have h:=heap_alloc_last (w.alloc (.cells #[.bool false,.string ⟨#[]⟩,.string ⟨#[]⟩,.int .i64 0,.int .i64 0,.slice none 0 0,.slice none 0 0,.slice none 0 0] MdT)) (.cells #[.pointer (some ⟨q,0,none⟩),.slice none 0 0,.slice none 0 0,.slice none 0 0,.int .i64 0,.int .i64 60] WrT)
  rwa [show(w.alloc (.cells #[.bool false,.string ⟨#[]⟩,.string ⟨#[]⟩,.int .i64 0,.int .i64 0,.slice none 0 0,.slice none 0 0,.slice none 0 0] MdT)).heap.size=w.heap.size+1 by simp]at h
 have HW2:=hzz (show WrS ((w.alloc (.cells #[.bool false,.string ⟨#[]⟩,.string ⟨#[]⟩,.int .i64 0,.int .i64 0,.slice none 0 0,.slice none 0 0,.slice none 0 0] MdT)).alloc (.cells #[.pointer (some ⟨q,0,none⟩),.slice none 0 0,.slice none 0 0,.slice none 0 0,.int .i64 0,.int .i64 60] WrT)) w.heap.size q (w.heap.size+1) ⟨[],[],[],0,60⟩from⟨none,0,none,0,none,0,hw2,World.ownsRow_nil _ _ _ _,World.ownsRow_nil _ _ _ _,World.ownsRow_nil _ _ _ _,(fun p hp=>by cases hp),(HT.out.below ha1).below ha2,by omega,HT.out.lt⟩)
 have HM2:=hzz (Ms.zero HW2.out ⟨(fun x hx=>by cases hx),(fun x hx=>by cases hx),(fun x hx=>by cases hx)⟩ (A0z.refl _ _ _) HB2.out.size)
 clear ha1 ha2 hw2
 try simp only[show(w.alloc (.cells #[.bool false,.string ⟨#[]⟩,.string ⟨#[]⟩,.int .i64 0,.int .i64 0,.slice none 0 0,.slice none 0 0,.slice none 0 0] MdT)).heap.size=w.heap.size+1 by simp]
 generalize(w.alloc (.cells #[.bool false,.string ⟨#[]⟩,.string ⟨#[]⟩,.int .i64 0,.int .i64 0,.slice none 0 0,.slice none 0 0,.slice none 0 0] MdT)).alloc (.cells #[.pointer (some ⟨q,0,none⟩),.slice none 0 0,.slice none 0 0,.slice none 0 0,.int .i64 0,.int .i64 60] WrT)=w2 at*
 obtain⟨g,hg⟩:=exz (w.heap.size+1);rw[<-hg]at HM2 HW2⊢;have HGG:=hzz hg;have t2:=HM2.out.t;have lt2:=HM2.out.lt;clear hg;have HKW:=hzz (show A0z w.heap.size q w w2 from A0z.of HB2.out)
 go_wp2_with fail
 have hab:=A0f w2 (.cells #[.int .i64 1,.int .i64 2] 2);have HAR:=hzz (heap_alloc_last w2 (.cells #[.int .i64 1,.int .i64 2] 2));have HZ3:=hzz (A0e HZ2.out hab)
 have HK3:=hzz (HKW.out.trans (A0z.of hab))
 have HM3:=hzz (Ms.zero (HW2.out.below hab) ⟨(fun x hx=>by cases hx),(fun x hx=>by cases hx),(fun x hx=>by cases hx)⟩ (A0z.refl w.heap.size q _) HK3.out.size)
 obtain⟨ga,hga⟩:=exz (w2.heap.size);have HGA:=hzz (show w.heap.size<=ga from by rw[hga];exact HKW.out.size);rw[<-hga]at HAR⊢;clear hab hga t2 lt2 HM2 HZ2 HB2 HKW HW2;generalize w2.alloc _=w3 at*
 have HZK:=hzz (show ∀W,A0z w.heap.size q w3 W->W.heap[w.heap.size]? =some (.cells #[.bool false,.string ⟨#[]⟩,.string ⟨#[]⟩,.int .i64 0,.int .i64 0,.slice none 0 0,.slice none 0 0,.slice none 0 0] MdT (0,0))from fun W h=>h.row HZ3.out (by have:=HT.out.lt;omega) (by decide) (by decide) (by decide) (by decide))
 go_loopg [45] 2 (fun gn i wr=>∃k:Nat,k<=2/\gn=2-k/\i= .int .i64 (k:Nat)/\Hid (Ms w3 w.heap.size q g ⟨[],[],[],0,60⟩ (5*k) 0 0 0 wr))
 case atStart=>exact⟨0,by omega,by omega,by go_num,HM3⟩
 obtain⟨k,hk,rfl,rfl,HM20⟩:=hrel;have t20:=HM20.out.t;have lt20:=HM20.out.lt;have hc:k=0\/k=1\/k=2:=by omega
 rcases hc with rfl|rfl|rfl
 ·have ca1:wr.cell? ⟨ga,0,none⟩=some (.int .i64 1):=A0a (HM20.out.kp.row HAR.out (by have:=HT.out.lt;have:=HGA.out;omega) (by decide) (by decide) (by decide) (by decide)) 0 rfl
  have HC:=hzz (HM20.out.next 4 (by omega) (by omega))
  go_wp2_with fail
  refine HC.out.mono ?_;rintro e w21 ⟨r1,rfl,hr1,hm,hk⟩;have HM21:=hzz hm;clear HC hm HM20 t20 lt20 hk;have t21:=HM21.out.t;have lt21:=HM21.out.lt
  have HC:=hzz (HM21.out.number (r1:Nat) (by omega) (by have:=HPT.out;have:=HLW.out;omega))
  go_wp2_with fail
  refine HC.out.mono ?_;rintro e w22 ⟨rfl,hm⟩;have HM22:=hzz hm;clear HC hm HM21 t21 lt21;have t22:=HM22.out.t;have lt22:=HM22.out.lt
  have HC:=hzz (HM22.out.op 54 1 2 (A1v (by decide) (by omega)) (by show A0w (A0g 54)<=2;decide) (by have:=HPT.out;have:=HLW.out;omega))
  go_wp2_with fail
  refine HC.out.mono ?_;rintro e w23 ⟨rfl,hm⟩;have HM23:=hzz hm;clear HC hm HM22 t22 lt22;have t23:=HM23.out.t;have lt23:=HM23.out.lt
  go_wp2_with fail
  go_roundg (2-(0+1))
  case measure=>omega
  exact⟨1,by omega,rfl,by go_num,hzz (HM23.out.mono (by omega) nlz nlz (Nat.zero_le _))⟩
 ·have ca1:wr.cell? ⟨ga,1,none⟩=some (.int .i64 2):=A0a (HM20.out.kp.row HAR.out (by have:=HT.out.lt;have:=HGA.out;omega) (by decide) (by decide) (by decide) (by decide)) 1 rfl
  have HC:=hzz (HM20.out.next 4 (by omega) (by omega))
  go_wp2_with fail
  refine HC.out.mono ?_;rintro e w21 ⟨r1,rfl,hr1,hm,hk⟩;have HM21:=hzz hm;clear HC hm HM20 t20 lt20 hk;have t21:=HM21.out.t;have lt21:=HM21.out.lt
  have HC:=hzz (HM21.out.number (r1:Nat) (by omega) (by have:=HPT.out;have:=HLW.out;omega))
  go_wp2_with fail
  refine HC.out.mono ?_;rintro e w22 ⟨rfl,hm⟩;have HM22:=hzz hm;clear HC hm HM21 t21 lt21;have t22:=HM22.out.t;have lt22:=HM22.out.lt
  have HC:=hzz (HM22.out.op 54 2 2 (A1v (by decide) (by omega)) (by show A0w (A0g 54)<=2;decide) (by have:=HPT.out;have:=HLW.out;omega))
  go_wp2_with fail
  refine HC.out.mono ?_;rintro e w23 ⟨rfl,hm⟩;have HM23:=hzz hm;clear HC hm HM22 t22 lt22;have t23:=HM23.out.t;have lt23:=HM23.out.lt
  go_wp2_with fail
  go_roundg (2-(1+1))
  case measure=>omega
  exact⟨2,by omega,rfl,by go_num,hzz (HM23.out.mono (by omega) nlz nlz (Nat.zero_le _))⟩
 clear hk;have HC:=hzz (HM20.out.op 10 0 1 (A4g (by decide)) (by show A0w (A0g 10)<=1;decide) (by have:=HPT.out;have:=HLW.out;omega))
 go_wp2_with fail
 refine HC.out.mono ?_;rintro e w21 ⟨rfl,hm⟩;have HM21:=hzz hm;clear HC hm HM20 t20 lt20;have t21:=HM21.out.t;have lt21:=HM21.out.lt
 have HC:=hzz (HM21.out.op 55 3 2 (A1v (by decide) (by omega)) (by show A0w (A0g 55)<=2;decide) (by have:=HPT.out;have:=HLW.out;omega))
 go_wp2_with fail
 refine HC.out.mono ?_;rintro e w22 ⟨rfl,hm⟩;have HM22:=hzz hm;clear HC hm HM21 t21 lt21;have t22:=HM22.out.t;have lt22:=HM22.out.lt;obtain⟨sA,hA⟩:=HM22.out;have HA:=hzz hA
 obtain⟨ca,cc,ta,tc,ma,mc,hx⟩:=hA.wr;have HX:=hzz hx;obtain⟨c0,c1,c2,c3,c4,c5,f1,f2,f3,f4,f5,lt⟩:=hx.box;have hlen:=hA.len (by have:=HPT.out;have:=HLW.out;omega)
 have HBB:=hzz hA.hB;clear hA hx c2 c3 c4 c5 f2 f3 f4 f5 t22 lt22 HM22
 go_upto_region 20 with(at_builtin;refine A0q A6d rfl _ _ rfl w.heap.size _ sA.code.length _ rfl HX.out.code _ 1 _ _ rfl rfl rfl rfl (by omega) (by unfold maxLen;omega) HBB.out ?_;intro v9 w9 hown9 hg9 hb9;have hown8:w9.ownsRow w.heap.size A2e 7 v9 (sA.code.length+1) ((sA.code++[(⟨187,0,0,[65],[],[],[]⟩:IN)]).flatMap IN.cells):=(by rw[List.flatMap_append];exact hown9);obtain⟨a9,c9,rfl,-,-⟩:=Ss.ofOwn IN.cells_length (by decide) hown8;have HAP:=hzz (HX.out.app hg9 hown8);have fo:=A0n HAP.out.2.2 1;have lto:=A0r HAP.out.2.2;have co:=A0a HAP.out.2.2 1 rfl;clear hown9 hown8 hg9 hb9 c0 c1 f1 lt)
 have hm:=HA.out.appd (x:=⟨187,0,0,[65],[],[],[]⟩) (fun l=>A2u l _ (by decide)) HAP.out.1 HAP.out.2.1;generalize w9.setCell ⟨g,1,none⟩ (.slice a9 (sA.code.length+1) c9)=w23 at*
 have HM23:=hzz hm;clear hm HA HX HBB HAP hlen fo lto co;have t23:=HM23.out.t;have lt23:=HM23.out.lt
 have HC:=hzz (HM23.out.op 58 5 2 (A1v (by decide) (by omega)) (by show A0w (A0g 58)<=2;decide) (by have:=HPT.out;have:=HLW.out;omega))
 go_wp2_with fail
 refine HC.out.mono ?_;rintro e w24 ⟨rfl,hm⟩;have HM24:=hzz hm;clear HC hm HM23 t23 lt23;have t24:=HM24.out.t;have lt24:=HM24.out.lt;have HC:=hzz (HM24.out.next 5 (by omega) (by omega))
 go_wp2_with fail
 refine HC.out.mono ?_;rintro e w25 ⟨r2,rfl,hr2,hm,hk⟩;have HM25:=hzz hm;clear HC hm HM24 t24 lt24 hk;have t25:=HM25.out.t;have lt25:=HM25.out.lt
 have HC:=hzz (HM25.out.number (r2:Nat) (by omega) (by have:=HPT.out;have:=HLW.out;omega))
 go_wp2_with fail
 refine HC.out.mono ?_;rintro e w26 ⟨rfl,hm⟩;have HM26:=hzz hm;clear HC hm HM25 t25 lt25;have t26:=HM26.out.t;have lt26:=HM26.out.lt
 have HC:=hzz (HM26.out.op 188 10 2 (fun c=>D0j c 10 (by omega)) (by show A0w (A0g 188)<=2;decide) (by have:=HPT.out;have:=HLW.out;omega))
 go_wp2_with fail
 refine HC.out.mono ?_;rintro e w27 ⟨rfl,hm⟩;have HM27:=hzz hm;clear HC hm HM26 t26 lt26;have t27:=HM27.out.t;have lt27:=HM27.out.lt
 have HC:=hzz (HM27.out.op 58 6 2 (A1v (by decide) (by omega)) (by show A0w (A0g 58)<=2;decide) (by have:=HPT.out;have:=HLW.out;omega))
 go_wp2_with fail
 refine HC.out.mono ?_;rintro e w28 ⟨rfl,hm⟩;have HM28:=hzz hm;clear HC hm HM27 t27 lt27;have t28:=HM28.out.t;have lt28:=HM28.out.lt
 have HC:=hzz (HM28.out.op 1 0 1 (A4g (by decide)) (by show A0w (A0g 1)<=1;decide) (by have:=HPT.out;have:=HLW.out;omega))
 go_wp2_with fail
 refine HC.out.mono ?_;rintro e w29 ⟨rfl,hm⟩;have HM29:=hzz hm;clear HC hm HM28 t28 lt28;have t29:=HM29.out.t;have lt29:=HM29.out.lt
 have HC:=hzz (HM29.out.op 58 7 2 (A1v (by decide) (by omega)) (by show A0w (A0g 58)<=2;decide) (by have:=HPT.out;have:=HLW.out;omega))
 go_wp2_with fail
 refine HC.out.mono ?_;rintro e w30 ⟨rfl,hm⟩;have HM30:=hzz hm;clear HC hm HM29 t29 lt29;have t30:=HM30.out.t;have lt30:=HM30.out.lt
 have HC:=hzz (HM30.out.next most HMO.out.1 (by have:=HMO.out.2;omega))
 go_wp2_with fail
 refine HC.out.mono ?_;rintro e w31 ⟨r3,rfl,hr3,hm,hk⟩;have HM31:=hzz hm;clear HC hm HM30 t30 lt30 hk;have t31:=HM31.out.t;have lt31:=HM31.out.lt;have hr4:r3+1<=100:=by have:=HMO.out.2;omega
 have HM40:=hzz (HM31.out.mono (show _<=28 by omega) nlz nlz (Nat.zero_le _));clear HM31 t31 lt31 hr3
 go_wp2_with fail
 go_loopg [12] (r3+1) (fun gn i wr=>∃k:Nat,k<=r3+1/\gn=r3+1-k/\i= .int .i64 ((r3:Nat)+1-(k:Nat))/\Hid (Ms w3 w.heap.size q g ⟨[],[],[],0,60⟩ (28+5*k) 0 0 0 wr))
 case atStart=>exact⟨0,by omega,by omega,by go_num,HM40⟩
 clear HM40;obtain⟨k,hk,rfl,rfl,HMK⟩:=hrel;by_cases hlt:k<r3+1
 ·have e1:decide ((r3:Int)+1-(k:Nat)>0)=true:=decide_eq_true (by omega);have e2:decide (0<(r3:Int)+1-(k:Nat))=true:=decide_eq_true (by omega);obtain⟨sk,hsk⟩:=HMK.out
  have HSK:=hzz hsk
  have HC:=hzz (HST.out wr w.heap.size q g sk (by have:=hsk.st.dp;dsimp only at this;omega) (by have:=hsk.st.dp;dsimp only at this;omega) hsk.wr hsk.st.inv (HLM.out.step hsk.st (by omega)) (HMP.out.step hsk.st (by omega) (by omega)) hsk.hB)
  clear hsk
  go_wp2_with fail
  refine HC.out.mono ?_;rintro e w4 ⟨rfl,hm⟩;have HM4:=hzz (Ms.then HSK.out hm);clear HC hm HSK
  go_wp2_with fail
  go_roundg (r3+1-(k+1))
  case measure=>omega
  exact⟨k+1,by omega,rfl,by go_num,hzz (HM4.out.mono (by omega) nlz nlz nlz)⟩
 have hke:k=r3+1:=by omega
 subst hke;have HM50:=HMK;have t50:=HM50.out.t;have lt50:=HM50.out.lt;have e3:(r3:Int)+1-(r3+1:Nat)=0:=by omega
 rw[e3];clear e3 hk hlt HMK;obtain⟨wr5,hwr5⟩:=exz (wr);clear hwr5 wr5;have HC:=hzz (HM50.out.int HI1.out 1 (by omega) (by omega) HLM.out (by omega))
 go_wp2_with fail
 refine HC.out.mono ?_;rintro e w51 ⟨rfl,hm⟩;have HM51:=hzz hm;clear HC hm HM50 t50 lt50;have t51:=HM51.out.t;have lt51:=HM51.out.lt;obtain⟨sA,hA⟩:=HM51.out;have HA:=hzz hA;clear hA HM51
 have HC:=hzz (B0h w51 w.heap.size q g sA 172 0 HA.out.wr (HA.out.len (by have:=HPT.out;omega)) HA.out.hB)
 go_wp2_with fail
 refine HC.out.mono ?_;rintro e w52 ⟨rfl,hs9,hk9⟩;obtain⟨ca,cc,ta,tc,ma,mc,hx⟩:=hs9;have HX:=hzz hx;have HKA:=hzz (HA.out.kp.trans hk9);clear HC hx hk9 t51 lt51
 have hn9:(sA.app ⟨172,0,0,[],[],[],[]⟩).code.length=sA.code.length+1:=by unfold WX.app;simp
 have HZ:=hzz (HZK.out w52 HKA.out)
 go_upto_region 32 with fail
 have HX6:=hzz (HX.out.below (brz.drew));have HZ6:=hzz (A0e HZ.out (brz.drew));have HKA6:=hzz (HKA.out.trans (A0z.of ((Below.refl w52.heap.size w52).drew)))
 have hSw:SB g (.slice ca (sA.code.length+1) cc) (.slice ta sA.traps.length tc) (.slice ma sA.maps.length mc) w52.drew:=by
  have h:=HX6.out.box.c1;rw[hn9]at h;exact⟨h,HX6.out.box.c2,HX6.out.box.c3⟩
 have l0:∀z,SB g (.slice ca (sA.code.length+1) cc) (.slice ta sA.traps.length tc) (.slice ma sA.maps.length mc) z->z.cell? ⟨g,1,none⟩=some (.slice ca (sA.code.length+1) cc):=fun z h=>h.1
 have l1:∀z,SB g (.slice ca (sA.code.length+1) cc) (.slice ta sA.traps.length tc) (.slice ma sA.maps.length mc) z->z.cell? ⟨g,2,none⟩=some (.slice ta sA.traps.length tc):=fun z h=>h.2.1
 have l2:∀z,SB g (.slice ca (sA.code.length+1) cc) (.slice ta sA.traps.length tc) (.slice ma sA.maps.length mc) z->z.cell? ⟨g,3,none⟩=some (.slice ma sA.maps.length mc):=fun z h=>h.2.2
 refine A0t (SB g (.slice ca (sA.code.length+1) cc) (.slice ta sA.traps.length tc) (.slice ma sA.maps.length mc)) 14 [(0,true),(1,true),(2,true),(3,true),(4,true),(5,true),(6,true),(7,true),(8,true),(9,true),(10,true),(11,true),(12,true),(13,true)] (by kernel_rfl) (by kernel_rfl) (fun c a d v w h=>by cases d<;>exact h) ?_
 clear HX HZ HKA;have HX:=HX6;have HZ:=HZ6;have HKA:=HKA6;clear HX6 HZ6 HKA6;generalize w52.drew=w60 at*
 iterate 14
  refine A0d fun K hK=>tkF ?_
  go_simp
  try go_bits
  refine hK _ _ ?_;clear hK K
 refine A1u (laF ?_)
 refine wp_store_row MdT _ _ rfl w.heap.size (UM.cells (⟨true,nm,[40,73,41,73],40,8,ca,sA.code.length+1,cc,sA.code++[⟨172,0,0,[],[],[],[]⟩],ta,sA.traps.length,tc,sA.traps,ma,sA.maps.length,mc,sA.maps⟩:UM)).toArray rfl rfl MdT _ HZ.out A5t rfl (D8h _) ?_
 clear l0 l1 l2 hSw
 go_wp2_with fail
 refine bodyPost_ret (results_cell_row rfl _ _ w.heap.size MdT (UM.cells (⟨true,nm,[40,73,41,73],40,8,ca,sA.code.length+1,cc,sA.code++[⟨172,0,0,[],[],[],[]⟩],ta,sA.traps.length,tc,sA.traps,ma,sA.maps.length,mc,sA.maps⟩:UM)).toArray (0,0) _ rfl (setRow_heap _ _ _ _ _ _ HZ.out) Tryz.underlying59 rfl A5t) rfl ?_
 have hkt:=A1q (cs':=(UM.cells (⟨true,nm,[40,73,41,73],40,8,ca,sA.code.length+1,cc,sA.code++[⟨172,0,0,[],[],[],[]⟩],ta,sA.traps.length,tc,sA.traps,ma,sA.maps.length,mc,sA.maps⟩:UM)).toArray) HZ.out
 have hbl:=below_setRow (B:=w.heap.size) (w:=w60) (Nat.le_refl w.heap.size) (UM.cells (⟨true,nm,[40,73,41,73],40,8,ca,sA.code.length+1,cc,sA.code++[⟨172,0,0,[],[],[],[]⟩],ta,sA.traps.length,tc,sA.traps,ma,sA.maps.length,mc,sA.maps⟩:UM)).toArray
 have hco:=HX.out.code;have htr:=HX.out.traps;have hmp:=HX.out.maps;rw[hn9]at hco
 refine⟨(⟨true,nm,[40,73,41,73],40,8,ca,sA.code.length+1,cc,sA.code++[⟨172,0,0,[],[],[],[]⟩],ta,sA.traps.length,tc,sA.traps,ma,sA.maps.length,mc,sA.maps⟩:UM),rfl,rfl,(B3r.of HA.out.st (by omega) rfl rfl true nm 40 8 (by omega) ca _ cc ta _ tc ma _ mc true),⟨A0k hco hkt (by decide),A0k htr hkt (by decide),A0k hmp hkt (by decide),fun p hp=>(HX.out.each p hp).keptT hkt (by decide)⟩,(by
  obtain⟨ba,bn,bc,bs,k,h1,h2,h3,h4,h5⟩:=HX.out.tape;have hq:=HX.out.qB;refine⟨ba,bn,bc,bs,k,h1.belowB hbl hq,⟨h2.1,fun hn=> ?_⟩,h3,h4,h5⟩;obtain⟨b,off,hx,hlt,hc⟩:=h2.2 hn
  have:=h5 hn b off hx;refine⟨b,off,hx,Nat.lt_of_lt_of_le hlt hbl.size,fun i hi=> ?_⟩;rw[<-hc i hi];unfold World.cell?;rw[hbl.block b (by show b<w.heap.size;omega)]),?_⟩
 exact⟨hbl.os.trans (HK3.out.trans HKA.out).os,hbl.tape.trans (HK3.out.trans HKA.out).tape,hbl.output.trans (HK3.out.trans HKA.out).output,Nat.le_trans (HK3.out.trans HKA.out).size hbl.size,fun k hk hq=>by rw[hbl.block k hk];exact(HK3.out.trans HKA.out).block k hk hq (.inl hk)⟩
end
end Go.Proofs.YtclpkipaehpkdaaGreatDoor
