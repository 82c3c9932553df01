/- asm -/
import Derived.Test.YtclpkipaehpkdaaGreatDoorQ22AsmMade
set_option linter.unusedVariables false
set_option linter.unusedSimpArgs false
set_option maxRecDepth 100000
set_option maxHeartbeats 64000000
namespace Go.Proofs.YtclpkipaehpkdaaGreatDoor
section
open Go.ChangeShapes Go.WideShapes Go.ChangeAt Go.RowKit Go.Maps
theorem Ms.lt{w0 w:World}{B q g:Nat}{s0:WX}{k kt km n:Nat}(h:Ms w0 B q g s0 k kt km n w):g<w.heap.size:=by
 obtain⟨s,h⟩:=h;obtain⟨ca,cc,ta,tc,ma,mc,hx⟩:=h.wr;exact hx.lt
theorem Ms.q{w0 w:World}{B q g:Nat}{s0:WX}{k kt km n:Nat}(h:Ms w0 B q g s0 k kt km n w):q<w.heap.size:=by
 obtain⟨s,h⟩:=h;obtain⟨ca,cc,ta,tc,ma,mc,hx⟩:=h.wr;exact hx.tape.lt
theorem A4g{op:Nat}(h:(decide (op<256/\op≠18/\op≠20)&&decide (A0g op=1/\(1:Nat)≠6/\(1:Nat)≠0/\(1:Nat)≠7))=true)(c:Nat):MX c ⟨op,0,0,[],[],[],[]⟩:=C1w c op 0 0 1 h (.inl rfl) (by omega) (by omega) (by unfold A1h;simp)
theorem A1v{op:Nat}{n:Int}(h:(decide (op<256/\op≠18/\op≠20)&&decide (A0g op=2/\(2:Nat)≠6/\(2:Nat)≠0/\(2:Nat)≠7))=true)(hn:0<=n/\n<=255)(c:Nat):MX c ⟨op,n,0,[],[],[],[]⟩:=C1w c op n 0 2 h (.inl rfl) (by omega) (by omega) (by unfold A1h;simp;omega)
theorem A5v(w w4:World)(q:Nat)(L:List Nat)(hk:A1e q (w.alloc (.cells (L.map (fun n:Nat=>Value.int .u8 (n:Nat))).toArray 5)) w4)(hq:q<w.heap.size)(r:Nat)(hr:r<L.length):∃o:Nat,w4.cell? ⟨w.heap.size,r,none⟩=some (.int .u8 (o:Nat))/\o∈L:=by
 refine⟨L[r],?_,List.getElem_mem hr⟩
 have h:w4.heap[w.heap.size]? =some (.cells (L.map (fun n:Nat=>Value.int .u8 (n:Nat))).toArray 5 (0,0)):=by
  rw[hk.block w.heap.size (by simp) (by omega)];exact heap_alloc_last w _
 exact A0a h r (by simp[hr])
theorem A7z(L:List Nat)(h:L.all (fun op=>decide (op<256/\op≠18/\op≠20)&&decide (A0g op=1/\(1:Nat)≠6/\(1:Nat)≠0/\(1:Nat)≠7))=true)(o:Nat)(ho:o∈L):(∀c,MX c ⟨o,0,0,[],[],[],[]⟩)/\A7w ⟨o,0,0,[],[],[],[]⟩<=1:=by
 have h1:=List.all_eq_true.1 h o ho;refine⟨A4g h1,?_⟩;rw[Bool.and_eq_true,decide_eq_true_eq,decide_eq_true_eq]at h1;unfold A7w;dsimp only;rw[h1.2.1];decide
theorem MsX.appd{w0 w w':World}{B q g:Nat}{s0 s:WX}{k kt km n:Nat}{x:IN}{ca:Option Addr}{cc:Nat}{ta:Option Addr}{tc:Nat}{ma:Option Addr}{mc:Nat}(h:MsX w0 B q g s0 k kt km n w s)(hx:∀c,MX c x)(hw:WrX w' B q g (s.app x) ca cc ta tc ma mc)(hk:A0z B q w w'):Ms w0 B q g s0 (k+3) kt km (n+1) w':=
 ⟨_,(h.st.trans (StX.app h.st.inv (hx _))).mono (by have:=(A4a (hx 0)).2;omega) nlz nlz nlz,⟨ca,cc,ta,tc,ma,mc,hw⟩,h.kp.trans hk,Nat.le_trans h.hB hk.size⟩
def B2z(d:Nat):Prop:=∀(w:World) (B q g:Nat) (s:WX) (deep:Int),-100<=deep->deep<=d->WrS w B q g s->B4u s->Lim (4*d+2) s->B<=w.heap.size->
 Calls Tryz.prog 81 #[.pointer (some ⟨g,0,none⟩),.int .i64 deep] w (A9y w B q g s 3 0 0 0)
def lwM(d:Nat):Nat:=if d=0 then 4 else if d=1 then 9 else 19
def B6n(d:Nat):Prop:=∀(w:World) (B q g:Nat) (s:WX) (deep:Int),-50<=deep->deep<=d->WrS w B q g s->B4u s->Lim (4*d+3) s->B<=w.heap.size->
 Calls Tryz.prog 125 #[.pointer (some ⟨g,0,none⟩),.int .i64 deep] w (A9y w B q g s (lwM d) 0 0 0)
theorem Ms.int{w0 w:World}{B q g:Nat}{s0:WX}{k kt km n d:Nat}(h:Ms w0 B q g s0 k kt km n w)(H:B2z d)(deep:Int)(h1: -100<=deep)(h2:deep<=d){L:Nat}(hl:Lim L s0)(hk:k+100*(4*d+2)<=100*L):
  Calls Tryz.prog 81 #[.pointer (some ⟨g,0,none⟩),.int .i64 deep] w (A9y w0 B q g s0 (k+3) kt km n):=by
 obtain⟨s,h⟩:=h;refine(H w B q g s deep h1 h2 h.wr h.st.inv (hl.step h.st hk) h.hB).mono ?_;rintro e w' ⟨he,hm⟩;exact⟨he,Ms.then h hm⟩
theorem Ms.long{w0 w:World}{B q g:Nat}{s0:WX}{k kt km n d:Nat}(h:Ms w0 B q g s0 k kt km n w)(H:B6n d)(deep:Int)(h1: -50<=deep)(h2:deep<=d){L:Nat}(hl:Lim L s0)(hk:k+100*(4*d+3)<=100*L):
  Calls Tryz.prog 125 #[.pointer (some ⟨g,0,none⟩),.int .i64 deep] w (A9y w0 B q g s0 (k+lwM d) kt km n):=by
 obtain⟨s,h⟩:=h;refine(H w B q g s deep h1 h2 h.wr h.st.inv (hl.step h.st hk) h.hB).mono ?_;rintro e w' ⟨he,hm⟩;exact⟨he,Ms.then h hm⟩
theorem C4b(d:Nat)(hd:d<=2)(hi1:0<d->B2z (d-1))(hl1:0<d->B6n (d-1)):B2z d:=by
 intro w B q g s deep h1 h2 hw hi hl hB;have HI:=hzz hi1;have HL:=hzz hl1
 have HLW:=hzz (show lwM (d-1)<=9 from by unfold lwM;split<;>(try split)<;>omega)
 clear hi1 hl1;obtain⟨ca,cc,ta,tc,ma,mc,hx⟩:=hw;have HX:=hzz hx;have HI0:=hzz hi.dec;have HLM:=hzz hl.dec;have HBW:=hzz hB;have hbn:=hl.bnd hi
 have HPT:=hzz (show B0j s.dec<=100000 from by have:=hl.dec.up;omega);have hbd: -200000<=s.bd/\s.bd<=100000:=⟨hbn.2.1,hbn.2.2⟩;obtain⟨c0,c1,c2,c3,c4,c5,f1,f2,f3,f4,f5,lt⟩:=hx.box
 clear hx c1 c2 c3 c4 f1 f2 f3 f4 hi hl hB hbn;go_enter Tryz.func81,Tryz.ntmps81
 go_upto_region 1 with fail
 obtain⟨hx1,hk1⟩:=WrX.put (s':=s.dec) (ca:=ca) (cc:=cc) (ta:=ta) (tc:=tc) (ma:=ma) (mc:=mc) (q:=q) (B:=B) 5 (.int .i64 (s.bd-1)) HX.out.k rfl HX.out.code HX.out.traps HX.out.maps HX.out.each HX.out.tape HX.out.gB HX.out.qB
 have HW1:=hzz (show WrS (w.setCell ⟨g,5,none⟩ (.int .i64 (s.bd-1))) B q g s.dec from⟨_,_,_,_,_,_,hx1⟩);have HK1:=hzz hk1;have t1:=A0a hx1.k 0 rfl;clear hx1 hk1 c0 c5 f5 lt HX
 generalize w.setCell ⟨g,5,none⟩ (.int .i64 (s.bd-1))=w1 at*;have HN:=hzz (HW1.out.next 16 (by omega) (by omega))
 go_wp2_with fail
 refine HN.out.mono ?_;rintro e w2 ⟨r,rfl,hr,hs2,hk2⟩;have HM2:=hzz (Ms.zero hs2 HI0.out (HK1.out.trans (A0z.one hk2)) HBW.out);have HW2:=hzz hs2;have t2:=HM2.out.t;have lt2:=HM2.out.lt
 clear HN hs2 hk2 HW1 HK1 t1 HI0 HBW
 have b2:w2.cell? ⟨g,5,none⟩=some (.int .i64 (s.bd-1)):=by
  obtain⟨ca,cc,ta,tc,ma,mc,hx⟩:=HW2.out;exact hx.box.c5
 clear HW2;by_cases h0:deep<=0
 ·obtain⟨r4,hr4,hlt⟩:∃r4:Nat,Int.tmod (r:Nat) 4=(r4:Nat)/\r4<4:=⟨r%4,by rw[Int.tmod_eq_emod_of_nonneg (Int.natCast_nonneg _)];omega,by omega⟩
  have e1:decide (deep<=0)=true:=by simpa using h0
  have hc:r4=0\/r4=1\/r4=2\/r4=3:=by omega
  clear b2
  rcases hc with rfl|rfl|rfl|rfl
  ·clear hlt;have HC:=hzz (HM2.out.next 3 (by omega) (by omega))
   go_wp2_with fail
   refine HC.out.mono ?_;rintro e w3 ⟨r1,rfl,hr1,hm,hk⟩;have HM3:=hzz hm;clear HC hm HM2 t2 lt2 hk;have t3:=HM3.out.t;have lt3:=HM3.out.lt
   have HC:=hzz (HM3.out.op 21 (r1:Nat) 2 (A1v (by decide) (by omega)) (by show A0w (A0g 21)<=2;decide) (by have:=HPT.out;have:=HLW.out;omega))
   go_wp2_with fail
   refine HC.out.mono ?_;rintro e w4 ⟨rfl,hm⟩;have HM4:=hzz hm;clear HC hm HM3 t3 lt3;have t4:=HM4.out.t;have lt4:=HM4.out.lt
   go_wp2_with fail
   go_end0;exact⟨rfl,(HM4.out.mono (show _<=3 by omega) nlz nlz (show 0+1<=_ by omega)).undec (.inl nlz) (.inl nlz) (.inl nlz)⟩
  ·clear hlt;have HC:=hzz (HM2.out.next 3 (by omega) (by omega))
   go_wp2_with fail
   refine HC.out.mono ?_;rintro e w3 ⟨r1,rfl,hr1,hm,hk⟩;have HM3:=hzz hm;clear HC hm HM2 t2 lt2 hk;have t3:=HM3.out.t;have lt3:=HM3.out.lt
   have HC:=hzz (HM3.out.op 21 (r1:Nat) 2 (A1v (by decide) (by omega)) (by show A0w (A0g 21)<=2;decide) (by have:=HPT.out;have:=HLW.out;omega))
   go_wp2_with fail
   refine HC.out.mono ?_;rintro e w4 ⟨rfl,hm⟩;have HM4:=hzz hm;clear HC hm HM3 t3 lt3;have t4:=HM4.out.t;have lt4:=HM4.out.lt
   go_wp2_with fail
   go_end0;exact⟨rfl,(HM4.out.mono (show _<=3 by omega) nlz nlz (show 0+1<=_ by omega)).undec (.inl nlz) (.inl nlz) (.inl nlz)⟩
  ·clear hlt;have HC:=hzz (HM2.out.next 256 (by omega) (by omega))
   go_wp2_with fail
   refine HC.out.mono ?_;rintro e w3 ⟨r1,rfl,hr1,hm,hk⟩;have HM3:=hzz hm;clear HC hm HM2 t2 lt2 hk;have t3:=HM3.out.t;have lt3:=HM3.out.lt
   have HC:=hzz (HM3.out.number ((r1:Nat) -100) (by omega) (by have:=HPT.out;have:=HLW.out;omega))
   go_wp2_with fail
   refine HC.out.mono ?_;rintro e w4 ⟨rfl,hm⟩;have HM4:=hzz hm;clear HC hm HM3 t3 lt3;have t4:=HM4.out.t;have lt4:=HM4.out.lt
   go_wp2_with fail
   go_end0;exact⟨rfl,(HM4.out.mono (show _<=3 by omega) nlz nlz (show 0+1<=_ by omega)).undec (.inl nlz) (.inl nlz) (.inl nlz)⟩
  clear hlt;have HC:=hzz (HM2.out.name 178 [77,97,105,110] [115] [73] (fun l=>A2u l _ (by decide)) (by have:=HPT.out;have:=HLW.out;omega))
  go_wp2_with fail
  refine HC.out.mono ?_;rintro e w3 ⟨rfl,hm⟩;have HM3:=hzz hm;clear HC hm HM2 t2 lt2;have t3:=HM3.out.t;have lt3:=HM3.out.lt
  go_wp2_with fail
  go_end0;exact⟨rfl,(HM3.out.mono (show _<=3 by omega) nlz nlz (show 0+1<=_ by omega)).undec (.inl nlz) (.inl nlz) (.inl nlz)⟩
 have e1:decide (deep<=0)=false:=by simpa using h0
 have hd0:0<d:=by omega
 by_cases h3:s.bd-1<=0
 ·obtain⟨r4,hr4,hlt⟩:∃r4:Nat,Int.tmod (r:Nat) 4=(r4:Nat)/\r4<4:=⟨r%4,by rw[Int.tmod_eq_emod_of_nonneg (Int.natCast_nonneg _)];omega,by omega⟩
  have e2:decide (s.bd-1<=0)=true:=by simpa using h3
  have hc:r4=0\/r4=1\/r4=2\/r4=3:=by omega
  rcases hc with rfl|rfl|rfl|rfl
  ·clear hlt;have HC:=hzz (HM2.out.next 3 (by omega) (by omega))
   go_wp2_with fail
   refine HC.out.mono ?_;rintro e w3 ⟨r1,rfl,hr1,hm,hk⟩;have HM3:=hzz hm;clear HC hm HM2 t2 lt2 hk;have t3:=HM3.out.t;have lt3:=HM3.out.lt
   have HC:=hzz (HM3.out.op 21 (r1:Nat) 2 (A1v (by decide) (by omega)) (by show A0w (A0g 21)<=2;decide) (by have:=HPT.out;have:=HLW.out;omega))
   go_wp2_with fail
   refine HC.out.mono ?_;rintro e w4 ⟨rfl,hm⟩;have HM4:=hzz hm;clear HC hm HM3 t3 lt3;have t4:=HM4.out.t;have lt4:=HM4.out.lt
   go_wp2_with fail
   go_end0;exact⟨rfl,(HM4.out.mono (show _<=3 by omega) nlz nlz (show 0+1<=_ by omega)).undec (.inl nlz) (.inl nlz) (.inl nlz)⟩
  ·clear hlt;have HC:=hzz (HM2.out.next 3 (by omega) (by omega))
   go_wp2_with fail
   refine HC.out.mono ?_;rintro e w3 ⟨r1,rfl,hr1,hm,hk⟩;have HM3:=hzz hm;clear HC hm HM2 t2 lt2 hk;have t3:=HM3.out.t;have lt3:=HM3.out.lt
   have HC:=hzz (HM3.out.op 21 (r1:Nat) 2 (A1v (by decide) (by omega)) (by show A0w (A0g 21)<=2;decide) (by have:=HPT.out;have:=HLW.out;omega))
   go_wp2_with fail
   refine HC.out.mono ?_;rintro e w4 ⟨rfl,hm⟩;have HM4:=hzz hm;clear HC hm HM3 t3 lt3;have t4:=HM4.out.t;have lt4:=HM4.out.lt
   go_wp2_with fail
   go_end0;exact⟨rfl,(HM4.out.mono (show _<=3 by omega) nlz nlz (show 0+1<=_ by omega)).undec (.inl nlz) (.inl nlz) (.inl nlz)⟩
  ·clear hlt;have HC:=hzz (HM2.out.next 256 (by omega) (by omega))
   go_wp2_with fail
   refine HC.out.mono ?_;rintro e w3 ⟨r1,rfl,hr1,hm,hk⟩;have HM3:=hzz hm;clear HC hm HM2 t2 lt2 hk;have t3:=HM3.out.t;have lt3:=HM3.out.lt
   have HC:=hzz (HM3.out.number ((r1:Nat) -100) (by omega) (by have:=HPT.out;have:=HLW.out;omega))
   go_wp2_with fail
   refine HC.out.mono ?_;rintro e w4 ⟨rfl,hm⟩;have HM4:=hzz hm;clear HC hm HM3 t3 lt3;have t4:=HM4.out.t;have lt4:=HM4.out.lt
   go_wp2_with fail
   go_end0;exact⟨rfl,(HM4.out.mono (show _<=3 by omega) nlz nlz (show 0+1<=_ by omega)).undec (.inl nlz) (.inl nlz) (.inl nlz)⟩
  clear hlt;have HC:=hzz (HM2.out.name 178 [77,97,105,110] [115] [73] (fun l=>A2u l _ (by decide)) (by have:=HPT.out;have:=HLW.out;omega))
  go_wp2_with fail
  refine HC.out.mono ?_;rintro e w3 ⟨rfl,hm⟩;have HM3:=hzz hm;clear HC hm HM2 t2 lt2;have t3:=HM3.out.t;have lt3:=HM3.out.lt
  go_wp2_with fail
  go_end0;exact⟨rfl,(HM3.out.mono (show _<=3 by omega) nlz nlz (show 0+1<=_ by omega)).undec (.inl nlz) (.inl nlz) (.inl nlz)⟩
 have e2:decide (s.bd-1<=0)=false:=by simpa using h3
 have hbd0:1<=s.bd-1:=by omega
 have hc:r=0\/r=1\/r=2\/r=3\/r=4\/r=5\/r=6\/r=7\/r=8\/r=9\/r=10\/r=11\/r=12\/r=13\/r=14\/r=15:=by omega
 rcases hc with rfl|rfl|rfl|rfl|rfl|rfl|rfl|rfl|rfl|rfl|rfl|rfl|rfl|rfl|rfl|rfl
 ·clear hr;have HC:=hzz (HM2.out.next 3 (by omega) (by omega))
  go_wp2_with fail
  refine HC.out.mono ?_;rintro e w3 ⟨r1,rfl,hr1,hm,hk⟩;have HM3:=hzz hm;clear HC hm HM2 t2 lt2 hk;have t3:=HM3.out.t;have lt3:=HM3.out.lt
  have HC:=hzz (HM3.out.op 21 (r1:Nat) 2 (A1v (by decide) (by omega)) (by show A0w (A0g 21)<=2;decide) (by have:=HPT.out;have:=HLW.out;omega))
  go_wp2_with fail
  refine HC.out.mono ?_;rintro e w4 ⟨rfl,hm⟩;have HM4:=hzz hm;clear HC hm HM3 t3 lt3;have t4:=HM4.out.t;have lt4:=HM4.out.lt
  go_wp2_with fail
  go_end0;exact⟨rfl,(HM4.out.mono (show _<=43 by(have:=HLW.out;omega)) nlz nlz (show 0+1<=_ by omega)).undec (.inr ⟨by have:=hbd0;omega,Nat.le_refl _⟩) (.inl nlz) (.inl nlz)⟩
 ·clear hr;have HC:=hzz (HM2.out.next 3 (by omega) (by omega))
  go_wp2_with fail
  refine HC.out.mono ?_;rintro e w3 ⟨r1,rfl,hr1,hm,hk⟩;have HM3:=hzz hm;clear HC hm HM2 t2 lt2 hk;have t3:=HM3.out.t;have lt3:=HM3.out.lt
  have HC:=hzz (HM3.out.op 21 (r1:Nat) 2 (A1v (by decide) (by omega)) (by show A0w (A0g 21)<=2;decide) (by have:=HPT.out;have:=HLW.out;omega))
  go_wp2_with fail
  refine HC.out.mono ?_;rintro e w4 ⟨rfl,hm⟩;have HM4:=hzz hm;clear HC hm HM3 t3 lt3;have t4:=HM4.out.t;have lt4:=HM4.out.lt
  go_wp2_with fail
  go_end0;exact⟨rfl,(HM4.out.mono (show _<=43 by(have:=HLW.out;omega)) nlz nlz (show 0+1<=_ by omega)).undec (.inr ⟨by have:=hbd0;omega,Nat.le_refl _⟩) (.inl nlz) (.inl nlz)⟩
 ·clear hr;have HC:=hzz (HM2.out.next 256 (by omega) (by omega))
  go_wp2_with fail
  refine HC.out.mono ?_;rintro e w3 ⟨r1,rfl,hr1,hm,hk⟩;have HM3:=hzz hm;clear HC hm HM2 t2 lt2 hk;have t3:=HM3.out.t;have lt3:=HM3.out.lt
  have HC:=hzz (HM3.out.number ((r1:Nat) -100) (by omega) (by have:=HPT.out;have:=HLW.out;omega))
  go_wp2_with fail
  refine HC.out.mono ?_;rintro e w4 ⟨rfl,hm⟩;have HM4:=hzz hm;clear HC hm HM3 t3 lt3;have t4:=HM4.out.t;have lt4:=HM4.out.lt
  go_wp2_with fail
  go_end0;exact⟨rfl,(HM4.out.mono (show _<=43 by(have:=HLW.out;omega)) nlz nlz (show 0+1<=_ by omega)).undec (.inr ⟨by have:=hbd0;omega,Nat.le_refl _⟩) (.inl nlz) (.inl nlz)⟩
 ·clear hr;have HC:=hzz (HM2.out.name 178 [77,97,105,110] [115] [73] (fun l=>A2u l _ (by decide)) (by have:=HPT.out;have:=HLW.out;omega))
  go_wp2_with fail
  refine HC.out.mono ?_;rintro e w3 ⟨rfl,hm⟩;have HM3:=hzz hm;clear HC hm HM2 t2 lt2;have t3:=HM3.out.t;have lt3:=HM3.out.lt
  go_wp2_with fail
  go_end0;exact⟨rfl,(HM3.out.mono (show _<=43 by(have:=HLW.out;omega)) nlz nlz (show 0+1<=_ by omega)).undec (.inr ⟨by have:=hbd0;omega,Nat.le_refl _⟩) (.inl nlz) (.inl nlz)⟩
 ·clear hr;have HC:=hzz (HM2.out.int (HI.out hd0) (deep-1) (by omega) (by omega) HLM.out (by have:=HLW.out;omega))
  go_wp2_with fail
  refine HC.out.mono ?_;rintro e w3 ⟨rfl,hm⟩;have HM3:=hzz hm;clear HC hm HM2 t2 lt2;have t3:=HM3.out.t;have lt3:=HM3.out.lt
  have HC:=hzz (HM3.out.int (HI.out hd0) (deep-1) (by omega) (by omega) HLM.out (by have:=HLW.out;omega))
  go_wp2_with fail
  refine HC.out.mono ?_;rintro e w4 ⟨rfl,hm⟩;have HM4:=hzz hm;clear HC hm HM3 t3 lt3;have t4:=HM4.out.t;have lt4:=HM4.out.lt
  have HC:=hzz ((HM4.out.below (A0f w4 (.cells #[.int .u8 96,.int .u8 100,.int .u8 104,.int .u8 108,.int .u8 126,.int .u8 130,.int .u8 120,.int .u8 112,.int .u8 128,.int .u8 124] 5))).next 10 (by omega) (by omega))
  go_wp2_with fail
  refine HC.out.mono ?_;rintro e w5 ⟨r5,rfl,hr5,hm,hk⟩
  obtain⟨o5,ho5,hL5⟩:=A5v w4 w5 q [96,100,104,108,126,130,120,112,128,124] hk (by have:=HM4.out.q;omega) r5 (by simp only[List.length_cons,List.length_nil];omega);have HM5:=hzz hm
  have HTB:=hzz (A7z [96,100,104,108,126,130,120,112,128,124] (by decide) o5 hL5);clear HC hm hk HM4 t4 lt4 hL5;have t5:=HM5.out.t;have lt5:=HM5.out.lt
  have HC:=hzz (HM5.out.op o5 0 1 HTB.out.1 HTB.out.2 (by have:=HPT.out;have:=HLW.out;omega))
  go_wp2_with fail
  refine HC.out.mono ?_;rintro e w6 ⟨rfl,hm⟩;have HM6:=hzz hm;clear HC hm HM5 t5 lt5;have t6:=HM6.out.t;have lt6:=HM6.out.lt
  go_wp2_with fail
  go_end0;exact⟨rfl,(HM6.out.mono (show _<=43 by(have:=HLW.out;omega)) nlz nlz (show 0+1<=_ by omega)).undec (.inr ⟨by have:=hbd0;omega,Nat.le_refl _⟩) (.inl nlz) (.inl nlz)⟩
 ·clear hr;have HC:=hzz (HM2.out.int (HI.out hd0) (deep-1) (by omega) (by omega) HLM.out (by have:=HLW.out;omega))
  go_wp2_with fail
  refine HC.out.mono ?_;rintro e w3 ⟨rfl,hm⟩;have HM3:=hzz hm;clear HC hm HM2 t2 lt2;have t3:=HM3.out.t;have lt3:=HM3.out.lt
  have HC:=hzz (HM3.out.int (HI.out hd0) (deep-1) (by omega) (by omega) HLM.out (by have:=HLW.out;omega))
  go_wp2_with fail
  refine HC.out.mono ?_;rintro e w4 ⟨rfl,hm⟩;have HM4:=hzz hm;clear HC hm HM3 t3 lt3;have t4:=HM4.out.t;have lt4:=HM4.out.lt
  have HC:=hzz ((HM4.out.below (A0f w4 (.cells #[.int .u8 96,.int .u8 100,.int .u8 104,.int .u8 108,.int .u8 126,.int .u8 130,.int .u8 120,.int .u8 112,.int .u8 128,.int .u8 124] 5))).next 10 (by omega) (by omega))
  go_wp2_with fail
  refine HC.out.mono ?_;rintro e w5 ⟨r5,rfl,hr5,hm,hk⟩
  obtain⟨o5,ho5,hL5⟩:=A5v w4 w5 q [96,100,104,108,126,130,120,112,128,124] hk (by have:=HM4.out.q;omega) r5 (by simp only[List.length_cons,List.length_nil];omega);have HM5:=hzz hm
  have HTB:=hzz (A7z [96,100,104,108,126,130,120,112,128,124] (by decide) o5 hL5);clear HC hm hk HM4 t4 lt4 hL5;have t5:=HM5.out.t;have lt5:=HM5.out.lt
  have HC:=hzz (HM5.out.op o5 0 1 HTB.out.1 HTB.out.2 (by have:=HPT.out;have:=HLW.out;omega))
  go_wp2_with fail
  refine HC.out.mono ?_;rintro e w6 ⟨rfl,hm⟩;have HM6:=hzz hm;clear HC hm HM5 t5 lt5;have t6:=HM6.out.t;have lt6:=HM6.out.lt
  go_wp2_with fail
  go_end0;exact⟨rfl,(HM6.out.mono (show _<=43 by(have:=HLW.out;omega)) nlz nlz (show 0+1<=_ by omega)).undec (.inr ⟨by have:=hbd0;omega,Nat.le_refl _⟩) (.inl nlz) (.inl nlz)⟩
 ·clear hr;have HC:=hzz (HM2.out.int (HI.out hd0) (deep-1) (by omega) (by omega) HLM.out (by have:=HLW.out;omega))
  go_wp2_with fail
  refine HC.out.mono ?_;rintro e w3 ⟨rfl,hm⟩;have HM3:=hzz hm;clear HC hm HM2 t2 lt2;have t3:=HM3.out.t;have lt3:=HM3.out.lt
  have HC:=hzz (HM3.out.int (HI.out hd0) (deep-1) (by omega) (by omega) HLM.out (by have:=HLW.out;omega))
  go_wp2_with fail
  refine HC.out.mono ?_;rintro e w4 ⟨rfl,hm⟩;have HM4:=hzz hm;clear HC hm HM3 t3 lt3;have t4:=HM4.out.t;have lt4:=HM4.out.lt
  have HC:=hzz ((HM4.out.below (A0f w4 (.cells #[.int .u8 96,.int .u8 100,.int .u8 104,.int .u8 108,.int .u8 126,.int .u8 130,.int .u8 120,.int .u8 112,.int .u8 128,.int .u8 124] 5))).next 10 (by omega) (by omega))
  go_wp2_with fail
  refine HC.out.mono ?_;rintro e w5 ⟨r5,rfl,hr5,hm,hk⟩
  obtain⟨o5,ho5,hL5⟩:=A5v w4 w5 q [96,100,104,108,126,130,120,112,128,124] hk (by have:=HM4.out.q;omega) r5 (by simp only[List.length_cons,List.length_nil];omega);have HM5:=hzz hm
  have HTB:=hzz (A7z [96,100,104,108,126,130,120,112,128,124] (by decide) o5 hL5);clear HC hm hk HM4 t4 lt4 hL5;have t5:=HM5.out.t;have lt5:=HM5.out.lt
  have HC:=hzz (HM5.out.op o5 0 1 HTB.out.1 HTB.out.2 (by have:=HPT.out;have:=HLW.out;omega))
  go_wp2_with fail
  refine HC.out.mono ?_;rintro e w6 ⟨rfl,hm⟩;have HM6:=hzz hm;clear HC hm HM5 t5 lt5;have t6:=HM6.out.t;have lt6:=HM6.out.lt
  go_wp2_with fail
  go_end0;exact⟨rfl,(HM6.out.mono (show _<=43 by(have:=HLW.out;omega)) nlz nlz (show 0+1<=_ by omega)).undec (.inr ⟨by have:=hbd0;omega,Nat.le_refl _⟩) (.inl nlz) (.inl nlz)⟩
 ·clear hr;have HC:=hzz (HM2.out.int (HI.out hd0) (deep-1) (by omega) (by omega) HLM.out (by have:=HLW.out;omega))
  go_wp2_with fail
  refine HC.out.mono ?_;rintro e w3 ⟨rfl,hm⟩;have HM3:=hzz hm;clear HC hm HM2 t2 lt2;have t3:=HM3.out.t;have lt3:=HM3.out.lt
  have HC:=hzz (HM3.out.int (HI.out hd0) (deep-1) (by omega) (by omega) HLM.out (by have:=HLW.out;omega))
  go_wp2_with fail
  refine HC.out.mono ?_;rintro e w4 ⟨rfl,hm⟩;have HM4:=hzz hm;clear HC hm HM3 t3 lt3;have t4:=HM4.out.t;have lt4:=HM4.out.lt
  have HC:=hzz ((HM4.out.below (A0f w4 (.cells #[.int .u8 96,.int .u8 100,.int .u8 104,.int .u8 108,.int .u8 126,.int .u8 130,.int .u8 120,.int .u8 112,.int .u8 128,.int .u8 124] 5))).next 10 (by omega) (by omega))
  go_wp2_with fail
  refine HC.out.mono ?_;rintro e w5 ⟨r5,rfl,hr5,hm,hk⟩
  obtain⟨o5,ho5,hL5⟩:=A5v w4 w5 q [96,100,104,108,126,130,120,112,128,124] hk (by have:=HM4.out.q;omega) r5 (by simp only[List.length_cons,List.length_nil];omega);have HM5:=hzz hm
  have HTB:=hzz (A7z [96,100,104,108,126,130,120,112,128,124] (by decide) o5 hL5);clear HC hm hk HM4 t4 lt4 hL5;have t5:=HM5.out.t;have lt5:=HM5.out.lt
  have HC:=hzz (HM5.out.op o5 0 1 HTB.out.1 HTB.out.2 (by have:=HPT.out;have:=HLW.out;omega))
  go_wp2_with fail
  refine HC.out.mono ?_;rintro e w6 ⟨rfl,hm⟩;have HM6:=hzz hm;clear HC hm HM5 t5 lt5;have t6:=HM6.out.t;have lt6:=HM6.out.lt
  go_wp2_with fail
  go_end0;exact⟨rfl,(HM6.out.mono (show _<=43 by(have:=HLW.out;omega)) nlz nlz (show 0+1<=_ by omega)).undec (.inr ⟨by have:=hbd0;omega,Nat.le_refl _⟩) (.inl nlz) (.inl nlz)⟩
 ·clear hr;have HC:=hzz (HM2.out.long (HL.out hd0) (deep-1) (by omega) (by omega) HLM.out (by have:=HLW.out;omega))
  go_wp2_with fail
  refine HC.out.mono ?_;rintro e w3 ⟨rfl,hm⟩;have HM3:=hzz hm;clear HC hm HM2 t2 lt2;have t3:=HM3.out.t;have lt3:=HM3.out.lt
  have HC:=hzz (HM3.out.op 136 0 1 (A4g (by decide)) (by show A0w (A0g 136)<=1;decide) (by have:=HPT.out;have:=HLW.out;omega))
  go_wp2_with fail
  refine HC.out.mono ?_;rintro e w4 ⟨rfl,hm⟩;have HM4:=hzz hm;clear HC hm HM3 t3 lt3;have t4:=HM4.out.t;have lt4:=HM4.out.lt
  go_wp2_with fail
  go_end0;exact⟨rfl,(HM4.out.mono (show _<=43 by(have:=HLW.out;omega)) nlz nlz (show 0+1<=_ by omega)).undec (.inr ⟨by have:=hbd0;omega,Nat.le_refl _⟩) (.inl nlz) (.inl nlz)⟩
 ·clear hr;have HC:=hzz (HM2.out.op 25 6 2 (A1v (by decide) (by omega)) (by show A0w (A0g 25)<=2;decide) (by have:=HPT.out;have:=HLW.out;omega))
  go_wp2_with fail
  refine HC.out.mono ?_;rintro e w3 ⟨rfl,hm⟩;have HM3:=hzz hm;clear HC hm HM2 t2 lt2;have t3:=HM3.out.t;have lt3:=HM3.out.lt
  have HC:=hzz (HM3.out.int (HI.out hd0) (deep-1) (by omega) (by omega) HLM.out (by have:=HLW.out;omega))
  go_wp2_with fail
  refine HC.out.mono ?_;rintro e w4 ⟨rfl,hm⟩;have HM4:=hzz hm;clear HC hm HM3 t3 lt3;have t4:=HM4.out.t;have lt4:=HM4.out.lt
  have HC:=hzz (HM4.out.op 46 0 1 (A4g (by decide)) (by show A0w (A0g 46)<=1;decide) (by have:=HPT.out;have:=HLW.out;omega))
  go_wp2_with fail
  refine HC.out.mono ?_;rintro e w5 ⟨rfl,hm⟩;have HM5:=hzz hm;clear HC hm HM4 t4 lt4;have t5:=HM5.out.t;have lt5:=HM5.out.lt
  go_wp2_with fail
  go_end0;exact⟨rfl,(HM5.out.mono (show _<=43 by(have:=HLW.out;omega)) nlz nlz (show 0+1<=_ by omega)).undec (.inr ⟨by have:=hbd0;omega,Nat.le_refl _⟩) (.inl nlz) (.inl nlz)⟩
 ·clear hr;have HC:=hzz (HM2.out.op 25 5 2 (A1v (by decide) (by omega)) (by show A0w (A0g 25)<=2;decide) (by have:=HPT.out;have:=HLW.out;omega))
  go_wp2_with fail
  refine HC.out.mono ?_;rintro e w3 ⟨rfl,hm⟩;have HM3:=hzz hm;clear HC hm HM2 t2 lt2;have t3:=HM3.out.t;have lt3:=HM3.out.lt
  have HC:=hzz (HM3.out.name 180 [65] [102] [73] (fun l=>A2u l _ (by decide)) (by have:=HPT.out;have:=HLW.out;omega))
  go_wp2_with fail
  refine HC.out.mono ?_;rintro e w4 ⟨rfl,hm⟩;have HM4:=hzz hm;clear HC hm HM3 t3 lt3;have t4:=HM4.out.t;have lt4:=HM4.out.lt
  go_wp2_with fail
  go_end0;exact⟨rfl,(HM4.out.mono (show _<=43 by(have:=HLW.out;omega)) nlz nlz (show 0+1<=_ by omega)).undec (.inr ⟨by have:=hbd0;omega,Nat.le_refl _⟩) (.inl nlz) (.inl nlz)⟩
 ·clear hr;have HC:=hzz (HM2.out.op 25 5 2 (A1v (by decide) (by omega)) (by show A0w (A0g 25)<=2;decide) (by have:=HPT.out;have:=HLW.out;omega))
  go_wp2_with fail
  refine HC.out.mono ?_;rintro e w3 ⟨rfl,hm⟩;have HM3:=hzz hm;clear HC hm HM2 t2 lt2;have t3:=HM3.out.t;have lt3:=HM3.out.lt
  have HC:=hzz (HM3.out.int (HI.out hd0) (deep-1) (by omega) (by omega) HLM.out (by have:=HLW.out;omega))
  go_wp2_with fail
  refine HC.out.mono ?_;rintro e w4 ⟨rfl,hm⟩;have HM4:=hzz hm;clear HC hm HM3 t3 lt3;have t4:=HM4.out.t;have lt4:=HM4.out.lt
  have HC:=hzz (HM4.out.name 182 [65] [118] [40,73,41,73] (fun l=>A2u l _ (by decide)) (by have:=HPT.out;have:=HLW.out;omega))
  go_wp2_with fail
  refine HC.out.mono ?_;rintro e w5 ⟨rfl,hm⟩;have HM5:=hzz hm;clear HC hm HM4 t4 lt4;have t5:=HM5.out.t;have lt5:=HM5.out.lt
  go_wp2_with fail
  go_end0;exact⟨rfl,(HM5.out.mono (show _<=43 by(have:=HLW.out;omega)) nlz nlz (show 0+1<=_ by omega)).undec (.inr ⟨by have:=hbd0;omega,Nat.le_refl _⟩) (.inl nlz) (.inl nlz)⟩
 ·clear hr;have HC:=hzz (HM2.out.int (HI.out hd0) (deep-1) (by omega) (by omega) HLM.out (by have:=HLW.out;omega))
  go_wp2_with fail
  refine HC.out.mono ?_;rintro e w3 ⟨rfl,hm⟩;have HM3:=hzz hm;clear HC hm HM2 t2 lt2;have t3:=HM3.out.t;have lt3:=HM3.out.lt
  have HC:=hzz (HM3.out.name 184 [77,97,105,110] [104,101,108,112] [40,73,41,73] (fun l=>A2u l _ (by decide)) (by have:=HPT.out;have:=HLW.out;omega))
  go_wp2_with fail
  refine HC.out.mono ?_;rintro e w4 ⟨rfl,hm⟩;have HM4:=hzz hm;clear HC hm HM3 t3 lt3;have t4:=HM4.out.t;have lt4:=HM4.out.lt
  go_wp2_with fail
  go_end0;exact⟨rfl,(HM4.out.mono (show _<=43 by(have:=HLW.out;omega)) nlz nlz (show 0+1<=_ by omega)).undec (.inr ⟨by have:=hbd0;omega,Nat.le_refl _⟩) (.inl nlz) (.inl nlz)⟩
 ·clear hr;have HC:=hzz (HM2.out.next 2 (by omega) (by omega))
  go_wp2_with fail
  refine HC.out.mono ?_;rintro e w3 ⟨r1,rfl,hr1,hm,hk⟩;have HM3:=hzz hm;clear HC hm HM2 t2 lt2 hk;have t3:=HM3.out.t;have lt3:=HM3.out.lt
  have HC:=hzz (HM3.out.op 25 (6+(r1:Nat)) 2 (A1v (by decide) (by omega)) (by show A0w (A0g 25)<=2;decide) (by have:=HPT.out;have:=HLW.out;omega))
  go_wp2_with fail
  refine HC.out.mono ?_;rintro e w4 ⟨rfl,hm⟩;have HM4:=hzz hm;clear HC hm HM3 t3 lt3;have t4:=HM4.out.t;have lt4:=HM4.out.lt
  have HC:=hzz (HM4.out.op 190 0 1 (A4g (by decide)) (by show A0w (A0g 190)<=1;decide) (by have:=HPT.out;have:=HLW.out;omega))
  go_wp2_with fail
  refine HC.out.mono ?_;rintro e w5 ⟨rfl,hm⟩;have HM5:=hzz hm;clear HC hm HM4 t4 lt4;have t5:=HM5.out.t;have lt5:=HM5.out.lt
  go_wp2_with fail
  go_end0;exact⟨rfl,(HM5.out.mono (show _<=43 by(have:=HLW.out;omega)) nlz nlz (show 0+1<=_ by omega)).undec (.inr ⟨by have:=hbd0;omega,Nat.le_refl _⟩) (.inl nlz) (.inl nlz)⟩
 ·clear hr;have HC:=hzz (HM2.out.op 25 5 2 (A1v (by decide) (by omega)) (by show A0w (A0g 25)<=2;decide) (by have:=HPT.out;have:=HLW.out;omega))
  go_wp2_with fail
  refine HC.out.mono ?_;rintro e w3 ⟨rfl,hm⟩;have HM3:=hzz hm;clear HC hm HM2 t2 lt2;have t3:=HM3.out.t;have lt3:=HM3.out.lt;obtain⟨sA,hA⟩:=HM3.out;have HA:=hzz hA
  obtain⟨ca,cc,ta,tc,ma,mc,hx⟩:=hA.wr;have HX:=hzz hx;obtain⟨c0,c1,c2,c3,c4,c5,f1,f2,f3,f4,f5,lt⟩:=hx.box;have hlen:=hA.len (by have:=HPT.out;have:=HLW.out;omega)
  have HBB:=hzz hA.hB;clear hA hx c2 c3 c4 c5 f2 f3 f4 f5 t3 lt3 HM3
  go_wp2_with (at_builtin;refine A0q A6d rfl _ _ rfl B _ sA.code.length _ rfl HX.out.code _ 1 _ _ rfl rfl rfl rfl (by omega) (by unfold maxLen;omega) HBB.out ?_;intro v9 w9 hown9 hg9 hb9;have hown8:w9.ownsRow B A2e 7 v9 (sA.code.length+1) ((sA.code++[(⟨193,0,0,[66],[],[],[]⟩:IN)]).flatMap IN.cells):=(by rw[List.flatMap_append];exact hown9);obtain⟨a9,c9,rfl,-,-⟩:=Ss.ofOwn IN.cells_length (by decide) hown8;have HAP:=hzz (HX.out.app hg9 hown8);have fo:=A0n HAP.out.2.2 1;have lto:=A0r HAP.out.2.2;have co:=A0a HAP.out.2.2 1 rfl;clear hown9 hown8 hg9 hb9 c0 c1 f1 lt)
  have hm:=HA.out.appd (x:=⟨193,0,0,[66],[],[],[]⟩) (fun l=>A2u l _ (by decide)) HAP.out.1 HAP.out.2.1;have HM4:=hzz hm;clear hm HA HX HBB hlen;go_end0
  exact⟨rfl,(HM4.out.mono (show _<=43 by(have:=HLW.out;omega)) nlz nlz (show 0+1<=_ by omega)).undec (.inr ⟨by have:=hbd0;omega,Nat.le_refl _⟩) (.inl nlz) (.inl nlz)⟩
 clear hr;have HC:=hzz (HM2.out.long (HL.out hd0) (deep-1) (by omega) (by omega) HLM.out (by have:=HLW.out;omega))
 go_wp2_with fail
 refine HC.out.mono ?_;rintro e w3 ⟨rfl,hm⟩;have HM3:=hzz hm;clear HC hm HM2 t2 lt2;have t3:=HM3.out.t;have lt3:=HM3.out.lt
 have HC:=hzz (HM3.out.long (HL.out hd0) (deep-1) (by omega) (by omega) HLM.out (by have:=HLW.out;omega))
 go_wp2_with fail
 refine HC.out.mono ?_;rintro e w4 ⟨rfl,hm⟩;have HM4:=hzz hm;clear HC hm HM3 t3 lt3;have t4:=HM4.out.t;have lt4:=HM4.out.lt
 have HC:=hzz (HM4.out.op 148 0 1 (A4g (by decide)) (by show A0w (A0g 148)<=1;decide) (by have:=HPT.out;have:=HLW.out;omega))
 go_wp2_with fail
 refine HC.out.mono ?_;rintro e w5 ⟨rfl,hm⟩;have HM5:=hzz hm;clear HC hm HM4 t4 lt4;have t5:=HM5.out.t;have lt5:=HM5.out.lt
 go_wp2_with fail
 go_end0;exact⟨rfl,(HM5.out.mono (show _<=43 by(have:=HLW.out;omega)) nlz nlz (show 0+1<=_ by omega)).undec (.inr ⟨by have:=hbd0;omega,Nat.le_refl _⟩) (.inl nlz) (.inl nlz)⟩
def SW(g q:Nat)(v:Value)(z:World):Prop:=z.cell? ⟨g,1,none⟩=some v/\z.cell? ⟨g,0,none⟩=some (.pointer (some ⟨q,0,none⟩))
theorem A8c{x:Int}(h: -9223372036854775808<=x/\x<=9223372036854775807):IntKind.i64.wrap x=x:=by
 rw[IntKind.wrap_i64];omega
theorem B7s(d:Nat)(hd:d<=2)(hi1:B2z (d-1))(hl1:0<d->B6n (d-1)):B6n d:=by
 intro w B q g s deep h1 h2 hw hi hl hB;have HI:=hzz hi1;have HL:=hzz hl1
 have HLW:=hzz (show lwM (d-1)<=9 from by unfold lwM;split<;>(try split)<;>omega)
 have HLW4:=hzz (show 3<=lwM (d-1)from by unfold lwM;split<;>(try split)<;>omega)
 have HLW3:=hzz (show 4<=lwM d from by unfold lwM;split<;>(try split)<;>omega)
 have HLW2:=hzz (show 0<d->2*lwM (d-1)+1<=lwM d from by
  intro h;have:d=1\/d=2:=by omega
  rcases this with rfl|rfl<;>decide)
 have HLM:=hzz hl;have HPT:=hzz (show B0j s<=100000 from by have:=hl.up;omega);have HM0:=hzz (Ms.zero hw hi (A0z.refl B q w) hB);have t0:=HM0.out.t;have lt0:=HM0.out.lt;clear hi1 hl1 hw hi hl hB
 go_enter Tryz.func125,Tryz.ntmps125;have HC:=hzz (HM0.out.next 6 (by omega) (by omega))
 go_wp2_with fail
 refine HC.out.mono ?_;rintro e w1 ⟨r,rfl,hr,hm,hk⟩;have HM1:=hzz hm;clear HC hm hk HM0 t0 lt0;have t1:=HM1.out.t;have lt1:=HM1.out.lt;have hc:r=0\/r=1\/r=2\/r=3\/r=4\/r=5:=by omega
 by_cases hd0':deep>0
 ·have e1:decide (deep>0)=true:=by simpa using hd0'
  have hd0:0<d:=by omega
  rcases hc with rfl|rfl|rfl|rfl|rfl|rfl
  ·clear hr;have HC:=hzz (HM1.out.long (HL.out hd0) (deep-1) (by omega) (by omega) HLM.out (by have:=HLW.out;omega))
   go_wp2_with fail
   refine HC.out.mono ?_;rintro e w2 ⟨rfl,hm⟩;have HM2:=hzz hm;clear HC hm HM1 t1 lt1;have t2:=HM2.out.t;have lt2:=HM2.out.lt
   have HC:=hzz (HM2.out.long (HL.out hd0) (deep-1) (by omega) (by omega) HLM.out (by have:=HLW.out;omega))
   go_wp2_with fail
   refine HC.out.mono ?_;rintro e w3 ⟨rfl,hm⟩;have HM3:=hzz hm;clear HC hm HM2 t2 lt2;have t3:=HM3.out.t;have lt3:=HM3.out.lt
   have HC:=hzz ((HM3.out.below (A0f w3 (.cells #[.int .u8 97,.int .u8 101,.int .u8 105,.int .u8 109,.int .u8 127,.int .u8 131,.int .u8 113,.int .u8 129] 5))).next 8 (by omega) (by omega))
   go_wp2_with fail
   refine HC.out.mono ?_;rintro e w4 ⟨r4,rfl,hr4,hm,hk⟩
   obtain⟨o4,ho4,hL4⟩:=A5v w3 w4 q [97,101,105,109,127,131,113,129] hk (by have:=HM3.out.q;omega) r4 (by simp only[List.length_cons,List.length_nil];omega);have HM4:=hzz hm
   have HTB:=hzz (A7z [97,101,105,109,127,131,113,129] (by decide) o4 hL4);clear HC hm hk HM3 t3 lt3 hL4;have t4:=HM4.out.t;have lt4:=HM4.out.lt
   have HC:=hzz (HM4.out.op o4 0 1 HTB.out.1 HTB.out.2 (by have:=HPT.out;have:=HLW.out;omega))
   go_wp2_with fail
   refine HC.out.mono ?_;rintro e w5 ⟨rfl,hm⟩;have HM5:=hzz hm;clear HC hm HM4 t4 lt4;have t5:=HM5.out.t;have lt5:=HM5.out.lt
   go_wp2_with fail
   go_end0;exact⟨rfl,HM5.out.mono (show _<=_ by have:=HLW2.out hd0;omega) nlz nlz (Nat.zero_le _)⟩
  ·clear hr;have HC:=hzz (HM1.out.long (HL.out hd0) (deep-1) (by omega) (by omega) HLM.out (by have:=HLW.out;omega))
   go_wp2_with fail
   refine HC.out.mono ?_;rintro e w2 ⟨rfl,hm⟩;have HM2:=hzz hm;clear HC hm HM1 t1 lt1;have t2:=HM2.out.t;have lt2:=HM2.out.lt
   have HC:=hzz (HM2.out.long (HL.out hd0) (deep-1) (by omega) (by omega) HLM.out (by have:=HLW.out;omega))
   go_wp2_with fail
   refine HC.out.mono ?_;rintro e w3 ⟨rfl,hm⟩;have HM3:=hzz hm;clear HC hm HM2 t2 lt2;have t3:=HM3.out.t;have lt3:=HM3.out.lt
   have HC:=hzz ((HM3.out.below (A0f w3 (.cells #[.int .u8 97,.int .u8 101,.int .u8 105,.int .u8 109,.int .u8 127,.int .u8 131,.int .u8 113,.int .u8 129] 5))).next 8 (by omega) (by omega))
   go_wp2_with fail
   refine HC.out.mono ?_;rintro e w4 ⟨r4,rfl,hr4,hm,hk⟩
   obtain⟨o4,ho4,hL4⟩:=A5v w3 w4 q [97,101,105,109,127,131,113,129] hk (by have:=HM3.out.q;omega) r4 (by simp only[List.length_cons,List.length_nil];omega);have HM4:=hzz hm
   have HTB:=hzz (A7z [97,101,105,109,127,131,113,129] (by decide) o4 hL4);clear HC hm hk HM3 t3 lt3 hL4;have t4:=HM4.out.t;have lt4:=HM4.out.lt
   have HC:=hzz (HM4.out.op o4 0 1 HTB.out.1 HTB.out.2 (by have:=HPT.out;have:=HLW.out;omega))
   go_wp2_with fail
   refine HC.out.mono ?_;rintro e w5 ⟨rfl,hm⟩;have HM5:=hzz hm;clear HC hm HM4 t4 lt4;have t5:=HM5.out.t;have lt5:=HM5.out.lt
   go_wp2_with fail
   go_end0;exact⟨rfl,HM5.out.mono (show _<=_ by have:=HLW2.out hd0;omega) nlz nlz (Nat.zero_le _)⟩
  ·clear hr;have HC:=hzz (HM1.out.long (HL.out hd0) (deep-1) (by omega) (by omega) HLM.out (by have:=HLW.out;omega))
   go_wp2_with fail
   refine HC.out.mono ?_;rintro e w2 ⟨rfl,hm⟩;have HM2:=hzz hm;clear HC hm HM1 t1 lt1;have t2:=HM2.out.t;have lt2:=HM2.out.lt
   have HC:=hzz (HM2.out.int HI.out (deep-1) (by omega) (by omega) HLM.out (by have:=HLW.out;omega))
   go_wp2_with fail
   refine HC.out.mono ?_;rintro e w3 ⟨rfl,hm⟩;have HM3:=hzz hm;clear HC hm HM2 t2 lt2;have t3:=HM3.out.t;have lt3:=HM3.out.lt
   have HC:=hzz ((HM3.out.below (A0f w3 (.cells #[.int .u8 121,.int .u8 123,.int .u8 125] 5))).next 3 (by omega) (by omega))
   go_wp2_with fail
   refine HC.out.mono ?_;rintro e w4 ⟨r4,rfl,hr4,hm,hk⟩
   obtain⟨o4,ho4,hL4⟩:=A5v w3 w4 q [121,123,125] hk (by have:=HM3.out.q;omega) r4 (by simp only[List.length_cons,List.length_nil];omega);have HM4:=hzz hm
   have HTB:=hzz (A7z [121,123,125] (by decide) o4 hL4);clear HC hm hk HM3 t3 lt3 hL4;have t4:=HM4.out.t;have lt4:=HM4.out.lt
   have HC:=hzz (HM4.out.op o4 0 1 HTB.out.1 HTB.out.2 (by have:=HPT.out;have:=HLW.out;omega))
   go_wp2_with fail
   refine HC.out.mono ?_;rintro e w5 ⟨rfl,hm⟩;have HM5:=hzz hm;clear HC hm HM4 t4 lt4;have t5:=HM5.out.t;have lt5:=HM5.out.lt
   go_wp2_with fail
   go_end0;exact⟨rfl,HM5.out.mono (show _<=_ by have:=HLW2.out hd0;have:=HLW4.out;omega) nlz nlz (Nat.zero_le _)⟩
  ·clear hr;have HC:=hzz (HM1.out.op 22 3 2 (A1v (by decide) (by omega)) (by show A0w (A0g 22)<=2;decide) (by have:=HPT.out;have:=HLW.out;omega))
   go_wp2_with fail
   refine HC.out.mono ?_;rintro e w2 ⟨rfl,hm⟩;have HM2:=hzz hm;clear HC hm HM1 t1 lt1;have t2:=HM2.out.t;have lt2:=HM2.out.lt
   go_wp2_with fail
   go_end0;exact⟨rfl,HM2.out.mono (show _<=_ by have:=HLW3.out;omega) nlz nlz (Nat.zero_le _)⟩
  ·clear hr
   go_upto_region 14 with fail
   obtain⟨sA,hA⟩:=HM1.out;have HA:=hzz hA;obtain⟨ca,cc,ta,tc,ma,mc,hx⟩:=hA.wr;have HX6:=hzz (hx.below (brz.drew));have HK6:=hzz (show A0z B q w1 w1.drew from A0z.of (brz.drew))
   have hlen:=hA.len (by have:=HPT.out;have:=HLW.out;omega);have HBB:=hzz (show B<=w1.drew.heap.size from hA.hB)
   have hSw:SW g q (.slice ca sA.code.length cc) w1.drew:=⟨A0a HX6.out.k 1 rfl,A0a HX6.out.k 0 rfl⟩
   have l0:∀z,SW g q (.slice ca sA.code.length cc) z->z.cell? ⟨g,1,none⟩=some (.slice ca sA.code.length cc):=fun z h=>h.1
   have l1:∀z,SW g q (.slice ca sA.code.length cc) z->z.cell? ⟨g,0,none⟩=some (.pointer (some ⟨q,0,none⟩)):=fun z h=>h.2
   clear hA hx t1 lt1 HM1
   refine A0t (SW g q (.slice ca sA.code.length cc)) 17 [(0,true),(1,true),(2,true),(3,true),(4,true),(5,true),(6,true),(7,true),(8,true),(9,false),(10,true),(11,true),(12,true),(13,false),(14,false),(15,true),(16,true)] (by kernel_rfl) (by kernel_rfl) (fun c a d v w h=>by cases d<;>exact h) ?_
   generalize w1.drew=W6 at*
   iterate 9
    refine A0d fun K hK=>tkF ?_
    go_simp
    try go_bits
    refine hK _ _ ?_;clear hK K
   refine A0d fun K hK=>alF ?_
   go_step;refine(A2w W6 q 256 HX6.out.tape (by omega) (by omega)).mono ?_;rintro e w7 ⟨r1,rfl,hr1,ht7,hk7⟩;have HX7:=hzz (HX6.out.turned hk7 ht7);have HK7:=hzz (HK6.out.trans (A0z.one hk7))
   have HB7:=hzz (Nat.le_trans HBB.out hk7.size);have hSx:SW g q (.slice ca sA.code.length cc) w7:=⟨A0a HX7.out.k 1 rfl,A0a HX7.out.k 0 rfl⟩;clear hSw HX6 HK6 HBB ht7 hk7;have hSw:=hSx
   clear hSx;go_simp
   first|refine⟨hSw,hK _ _ ?_⟩|refine hK _ _ ?_
   clear hK K;have hsh:IntKind.i64.wrap ((r1:Int)*1099511627776)=(r1:Int)*1099511627776:=A8c (by omega)
   have hsb:IntKind.i64.wrap ((r1:Int)*1099511627776-5)=lgM r1:=A8c (by omega)
   iterate 3
    refine A0d fun K hK=>tkF ?_
    go_simp
    try go_bits
    refine hK _ _ ?_;clear hK K
   refine A0d fun K hK=>alF ?_
   go_step;have hal:Below w7.heap.size w7 (w7.alloc (.cells #[.int .u8 20,.int .i64 (lgM r1),.int .i64 0,.string ⟨#[]⟩,.string ⟨#[]⟩,.string ⟨#[74]⟩,.string ⟨#[]⟩] A2e)):=A0f _ _
   have hSx:SW g q (.slice ca sA.code.length cc) (w7.alloc (.cells #[.int .u8 20,.int .i64 (lgM r1),.int .i64 0,.string ⟨#[]⟩,.string ⟨#[]⟩,.string ⟨#[74]⟩,.string ⟨#[]⟩] A2e)):=⟨A0c hal hSw.1,A0c hal hSw.2⟩
   refine⟨hSx,hK _ _ ?_⟩;clear hK K;refine A0d fun K hK=>alF ?_
   change Oper.wp _ _ _ _ _ _
   refine A3h A6d (ops:= #[]) rfl _ _ _ rfl B _ sA.code.length _ rfl (HX7.out.code.alloc _) _ 1 _ rfl (Src.litS (m:=1) rfl rfl A6d.1) (by omega) (by unfold maxLen;omega) (Nat.le_trans HB7.out (by simp)) ?_
   intro v9 w9 hown9 hg9 hb9;have hown8:w9.ownsRow B A2e 7 v9 (sA.code.length+1) ((sA.code++[(⟨20,lgM r1,0,[],[],[74],[]⟩:IN)]).flatMap IN.cells):=(by rw[List.flatMap_append];exact hown9)
   obtain⟨a9,c9,rfl,-,-⟩:=Ss.ofOwn IN.cells_length (by decide) hown8;have HAP:=hzz (HX7.out.app hg9 hown8)
   have hSn:SW g q (.slice ca sA.code.length cc) w9:=⟨A0a HAP.out.2.2 1 rfl,A0a HAP.out.2.2 0 rfl⟩;clear hSw hSx hal hown9 hown8 hg9 hb9;have hSw:=hSn;clear hSn;refine⟨hSw,hK _ _ ?_⟩
   clear hK K
   iterate 2
    refine A0d fun K hK=>tkF ?_
    go_simp
    try go_bits
    refine hK _ _ ?_;clear hK K
   have fo:=A0n HAP.out.2.2 1;have lto:=A0r HAP.out.2.2;have co:=A0a HAP.out.2.2 1 rfl;refine A1u (laF ?_);go_step
   have hm:=HA.out.appd (x:=⟨20,lgM r1,0,[],[],[74],[]⟩) (fun c=>D9x c r1 (by omega)) HAP.out.1 (HK7.out.trans HAP.out.2.1);go_end0
   exact⟨rfl,hm.mono (show _<=_ by have:=HLW3.out;omega) nlz nlz (Nat.zero_le _)⟩
  clear hr;have HC:=hzz (HM1.out.int HI.out (deep-1) (by omega) (by omega) HLM.out (by have:=HLW.out;omega))
  go_wp2_with fail
  refine HC.out.mono ?_;rintro e w2 ⟨rfl,hm⟩;have HM2:=hzz hm;clear HC hm HM1 t1 lt1;have t2:=HM2.out.t;have lt2:=HM2.out.lt
  have HC:=hzz (HM2.out.op 133 0 1 (A4g (by decide)) (by show A0w (A0g 133)<=1;decide) (by have:=HPT.out;have:=HLW.out;omega))
  go_wp2_with fail
  refine HC.out.mono ?_;rintro e w3 ⟨rfl,hm⟩;have HM3:=hzz hm;clear HC hm HM2 t2 lt2;have t3:=HM3.out.t;have lt3:=HM3.out.lt
  go_wp2_with fail
  go_end0;exact⟨rfl,HM3.out.mono (show _<=_ by have:=HLW3.out;omega) nlz nlz (Nat.zero_le _)⟩
 have e1:decide (deep>0)=false:=by simpa using hd0'
 rcases hc with rfl|rfl|rfl|rfl|rfl|rfl
 ·clear hr;have HC:=hzz (HM1.out.int HI.out (deep-1) (by omega) (by omega) HLM.out (by have:=HLW.out;omega))
  go_wp2_with fail
  refine HC.out.mono ?_;rintro e w2 ⟨rfl,hm⟩;have HM2:=hzz hm;clear HC hm HM1 t1 lt1;have t2:=HM2.out.t;have lt2:=HM2.out.lt
  have HC:=hzz (HM2.out.op 133 0 1 (A4g (by decide)) (by show A0w (A0g 133)<=1;decide) (by have:=HPT.out;have:=HLW.out;omega))
  go_wp2_with fail
  refine HC.out.mono ?_;rintro e w3 ⟨rfl,hm⟩;have HM3:=hzz hm;clear HC hm HM2 t2 lt2;have t3:=HM3.out.t;have lt3:=HM3.out.lt
  go_wp2_with fail
  go_end0;exact⟨rfl,HM3.out.mono (show _<=_ by have:=HLW3.out;omega) nlz nlz (Nat.zero_le _)⟩
 ·clear hr;have HC:=hzz (HM1.out.int HI.out (deep-1) (by omega) (by omega) HLM.out (by have:=HLW.out;omega))
  go_wp2_with fail
  refine HC.out.mono ?_;rintro e w2 ⟨rfl,hm⟩;have HM2:=hzz hm;clear HC hm HM1 t1 lt1;have t2:=HM2.out.t;have lt2:=HM2.out.lt
  have HC:=hzz (HM2.out.op 133 0 1 (A4g (by decide)) (by show A0w (A0g 133)<=1;decide) (by have:=HPT.out;have:=HLW.out;omega))
  go_wp2_with fail
  refine HC.out.mono ?_;rintro e w3 ⟨rfl,hm⟩;have HM3:=hzz hm;clear HC hm HM2 t2 lt2;have t3:=HM3.out.t;have lt3:=HM3.out.lt
  go_wp2_with fail
  go_end0;exact⟨rfl,HM3.out.mono (show _<=_ by have:=HLW3.out;omega) nlz nlz (Nat.zero_le _)⟩
 ·clear hr;have HC:=hzz (HM1.out.int HI.out (deep-1) (by omega) (by omega) HLM.out (by have:=HLW.out;omega))
  go_wp2_with fail
  refine HC.out.mono ?_;rintro e w2 ⟨rfl,hm⟩;have HM2:=hzz hm;clear HC hm HM1 t1 lt1;have t2:=HM2.out.t;have lt2:=HM2.out.lt
  have HC:=hzz (HM2.out.op 133 0 1 (A4g (by decide)) (by show A0w (A0g 133)<=1;decide) (by have:=HPT.out;have:=HLW.out;omega))
  go_wp2_with fail
  refine HC.out.mono ?_;rintro e w3 ⟨rfl,hm⟩;have HM3:=hzz hm;clear HC hm HM2 t2 lt2;have t3:=HM3.out.t;have lt3:=HM3.out.lt
  go_wp2_with fail
  go_end0;exact⟨rfl,HM3.out.mono (show _<=_ by have:=HLW3.out;omega) nlz nlz (Nat.zero_le _)⟩
 ·clear hr;have HC:=hzz (HM1.out.op 22 3 2 (A1v (by decide) (by omega)) (by show A0w (A0g 22)<=2;decide) (by have:=HPT.out;have:=HLW.out;omega))
  go_wp2_with fail
  refine HC.out.mono ?_;rintro e w2 ⟨rfl,hm⟩;have HM2:=hzz hm;clear HC hm HM1 t1 lt1;have t2:=HM2.out.t;have lt2:=HM2.out.lt
  go_wp2_with fail
  go_end0;exact⟨rfl,HM2.out.mono (show _<=_ by have:=HLW3.out;omega) nlz nlz (Nat.zero_le _)⟩
 ·clear hr
  go_upto_region 14 with fail
  obtain⟨sA,hA⟩:=HM1.out;have HA:=hzz hA;obtain⟨ca,cc,ta,tc,ma,mc,hx⟩:=hA.wr;have HX6:=hzz (hx.below (brz.drew));have HK6:=hzz (show A0z B q w1 w1.drew from A0z.of (brz.drew))
  have hlen:=hA.len (by have:=HPT.out;have:=HLW.out;omega);have HBB:=hzz (show B<=w1.drew.heap.size from hA.hB)
  have hSw:SW g q (.slice ca sA.code.length cc) w1.drew:=⟨A0a HX6.out.k 1 rfl,A0a HX6.out.k 0 rfl⟩
  have l0:∀z,SW g q (.slice ca sA.code.length cc) z->z.cell? ⟨g,1,none⟩=some (.slice ca sA.code.length cc):=fun z h=>h.1
  have l1:∀z,SW g q (.slice ca sA.code.length cc) z->z.cell? ⟨g,0,none⟩=some (.pointer (some ⟨q,0,none⟩)):=fun z h=>h.2
  clear hA hx t1 lt1 HM1
  refine A0t (SW g q (.slice ca sA.code.length cc)) 17 [(0,true),(1,true),(2,true),(3,true),(4,true),(5,true),(6,true),(7,true),(8,true),(9,false),(10,true),(11,true),(12,true),(13,false),(14,false),(15,true),(16,true)] (by kernel_rfl) (by kernel_rfl) (fun c a d v w h=>by cases d<;>exact h) ?_
  generalize w1.drew=W6 at*
  iterate 9
   refine A0d fun K hK=>tkF ?_
   go_simp
   try go_bits
   refine hK _ _ ?_;clear hK K
  refine A0d fun K hK=>alF ?_
  go_step;refine(A2w W6 q 256 HX6.out.tape (by omega) (by omega)).mono ?_;rintro e w7 ⟨r1,rfl,hr1,ht7,hk7⟩;have HX7:=hzz (HX6.out.turned hk7 ht7);have HK7:=hzz (HK6.out.trans (A0z.one hk7))
  have HB7:=hzz (Nat.le_trans HBB.out hk7.size);have hSx:SW g q (.slice ca sA.code.length cc) w7:=⟨A0a HX7.out.k 1 rfl,A0a HX7.out.k 0 rfl⟩;clear hSw HX6 HK6 HBB ht7 hk7;have hSw:=hSx
  clear hSx;go_simp
  first|refine⟨hSw,hK _ _ ?_⟩|refine hK _ _ ?_
  clear hK K;have hsh:IntKind.i64.wrap ((r1:Int)*1099511627776)=(r1:Int)*1099511627776:=A8c (by omega)
  have hsb:IntKind.i64.wrap ((r1:Int)*1099511627776-5)=lgM r1:=A8c (by omega)
  iterate 3
   refine A0d fun K hK=>tkF ?_
   go_simp
   try go_bits
   refine hK _ _ ?_;clear hK K
  refine A0d fun K hK=>alF ?_
  go_step;have hal:Below w7.heap.size w7 (w7.alloc (.cells #[.int .u8 20,.int .i64 (lgM r1),.int .i64 0,.string ⟨#[]⟩,.string ⟨#[]⟩,.string ⟨#[74]⟩,.string ⟨#[]⟩] A2e)):=A0f _ _
  have hSx:SW g q (.slice ca sA.code.length cc) (w7.alloc (.cells #[.int .u8 20,.int .i64 (lgM r1),.int .i64 0,.string ⟨#[]⟩,.string ⟨#[]⟩,.string ⟨#[74]⟩,.string ⟨#[]⟩] A2e)):=⟨A0c hal hSw.1,A0c hal hSw.2⟩
  refine⟨hSx,hK _ _ ?_⟩;clear hK K;refine A0d fun K hK=>alF ?_
  change Oper.wp _ _ _ _ _ _
  refine A3h A6d (ops:= #[]) rfl _ _ _ rfl B _ sA.code.length _ rfl (HX7.out.code.alloc _) _ 1 _ rfl (Src.litS (m:=1) rfl rfl A6d.1) (by omega) (by unfold maxLen;omega) (Nat.le_trans HB7.out (by simp)) ?_
  intro v9 w9 hown9 hg9 hb9;have hown8:w9.ownsRow B A2e 7 v9 (sA.code.length+1) ((sA.code++[(⟨20,lgM r1,0,[],[],[74],[]⟩:IN)]).flatMap IN.cells):=(by rw[List.flatMap_append];exact hown9)
  obtain⟨a9,c9,rfl,-,-⟩:=Ss.ofOwn IN.cells_length (by decide) hown8;have HAP:=hzz (HX7.out.app hg9 hown8)
  have hSn:SW g q (.slice ca sA.code.length cc) w9:=⟨A0a HAP.out.2.2 1 rfl,A0a HAP.out.2.2 0 rfl⟩;clear hSw hSx hal hown9 hown8 hg9 hb9;have hSw:=hSn;clear hSn;refine⟨hSw,hK _ _ ?_⟩
  clear hK K
  iterate 2
   refine A0d fun K hK=>tkF ?_
   go_simp
   try go_bits
   refine hK _ _ ?_;clear hK K
  have fo:=A0n HAP.out.2.2 1;have lto:=A0r HAP.out.2.2;have co:=A0a HAP.out.2.2 1 rfl;refine A1u (laF ?_);go_step
  have hm:=HA.out.appd (x:=⟨20,lgM r1,0,[],[],[74],[]⟩) (fun c=>D9x c r1 (by omega)) HAP.out.1 (HK7.out.trans HAP.out.2.1);go_end0
  exact⟨rfl,hm.mono (show _<=_ by have:=HLW3.out;omega) nlz nlz (Nat.zero_le _)⟩
 clear hr;have HC:=hzz (HM1.out.int HI.out (deep-1) (by omega) (by omega) HLM.out (by have:=HLW.out;omega))
 go_wp2_with fail
 refine HC.out.mono ?_;rintro e w2 ⟨rfl,hm⟩;have HM2:=hzz hm;clear HC hm HM1 t1 lt1;have t2:=HM2.out.t;have lt2:=HM2.out.lt
 have HC:=hzz (HM2.out.op 133 0 1 (A4g (by decide)) (by show A0w (A0g 133)<=1;decide) (by have:=HPT.out;have:=HLW.out;omega))
 go_wp2_with fail
 refine HC.out.mono ?_;rintro e w3 ⟨rfl,hm⟩;have HM3:=hzz hm;clear HC hm HM2 t2 lt2;have t3:=HM3.out.t;have lt3:=HM3.out.lt
 go_wp2_with fail
 go_end0;exact⟨rfl,HM3.out.mono (show _<=_ by have:=HLW3.out;omega) nlz nlz (Nat.zero_le _)⟩
theorem B7a:∀d:Nat,d<=2->B2z d/\B6n d
 |0,h=>by
  have h0:B2z 0:=C4b 0 h (fun e=>absurd e (by omega)) (fun e=>absurd e (by omega));exact⟨h0,B7s 0 h h0 (fun e=>absurd e (by omega))⟩
 |d+1,h=>by
  obtain⟨a,b⟩:=B7a d (by omega);exact⟨C4b (d+1) h (fun _=>a) (fun _=>b),B7s (d+1) h a (fun _=>b)⟩
def D1s:List (List UInt8):=[[73],[73],[73],[74],[76,65,59],[91,73],[91,66]]
def WX.map(s:WX)(p:UP):WX:={s with maps:=s.maps++[p]}
def WX.trap(s:WX)(t:UT):WX:={s with traps:=s.traps++[t]}
theorem StX.map{s:WX}(h:B4u s){p:UP}(hp:MpM s.code.length p):StX 0 0 1 0 s (s.map p):=by
 refine⟨⟨h.ins,h.tr,fun y hy=> ?_⟩,List.prefix_refl _,rfl,Nat.le_refl _,Nat.le_refl _,?_,Int.le_refl _,?_⟩
 ·rcases List.mem_append.1 hy with hy|hy
  ·exact h.mp y hy
  rw[List.mem_singleton.1 hy];exact hp
 ·show(s.maps++[p]).length+2*s.bd.toNat<=_;rw[List.length_append,List.length_singleton];omega
 show s.bd+wtX s.code+(0:Nat)<=s.bd+wtX s.code;omega
theorem StX.trap{s:WX}(h:B4u s){t:UT}(ht:TrM s.code.length t):StX 0 1 0 0 s (s.trap t):=by
 refine⟨⟨h.ins,fun y hy=> ?_,h.mp⟩,List.prefix_refl _,rfl,Nat.le_refl _,?_,Nat.le_refl _,Int.le_refl _,?_⟩
 ·rcases List.mem_append.1 hy with hy|hy
  ·exact h.tr y hy
  rw[List.mem_singleton.1 hy];exact ht
 ·show(s.traps++[t]).length+s.bd.toNat<=_;rw[List.length_append,List.length_singleton];omega
 show s.bd+wtX s.code+(0:Nat)<=s.bd+wtX s.code;omega
theorem WrX.appM{w w9:World}{B q g:Nat}{s:WX}{ca:Option Addr}{cc:Nat}{ta:Option Addr}{tc:Nat}{ma:Option Addr}{mc:Nat}{o:Obj}{p:UP}{a9:Option Addr}{c9:Nat}(h:WrX w B q g s ca cc ta tc ma mc)(hp:p.Own w B)
  (hg:(w.alloc o).grownBy w9 (Value.slice ma s.maps.length mc).ownBlock) (ho:w9.ownsRow B B7r 3 (.slice a9 (s.maps.length+1) c9) (s.maps.length+1) ((s.maps++[p]).flatMap UP.cells)):
  WrX (w9.setCell ⟨g,3,none⟩ (.slice a9 (s.maps.length+1) c9)) B q g (s.map p) ca cc ta tc a9 c9/\A0z B q w (w9.setCell ⟨g,3,none⟩ (.slice a9 (s.maps.length+1) c9))/\w9.heap[g]? =some (.cells #[.pointer (some ⟨q,0,none⟩),.slice ca s.code.length cc,.slice ta s.traps.length tc,.slice ma s.maps.length mc,.int .i64 s.dp,.int .i64 s.bd] WrT (0,0)):=by
 obtain⟨hkt,hke,hk,ht⟩:=h.grow h.maps (.inr (.inr rfl)) hg;have hn:(s.maps++[p]).length=s.maps.length+1:=by simp
 obtain⟨h1,h2⟩:=WrX.put (s':=s.map p) (ca:=ca) (cc:=cc) (ta:=ta) (tc:=tc) (ma:=a9) (mc:=c9) (q:=q) (B:=B) 3 (.slice a9 (s.maps.length+1) c9) hk (by show _= #[_,_,_,Value.slice a9 (s.maps++[p]).length c9,_,_];rw[hn];rfl)
  (A0k h.code hkt (by decide)) (A0k h.traps hkt (by decide)) (by show w9.ownsRow B B7r 3 (.slice a9 (s.maps++[p]).length c9) (s.maps++[p]).length _;rw[hn];exact ho) (fun y hy=>by
   rcases List.mem_append.1 hy with hy|hy
   ·exact(h.each y hy).keptT hkt (by decide)
   rw[List.mem_singleton.1 hy];exact hp.keptT hkt (by decide)) ht h.gB h.qB
 exact⟨h1,hke.trans h2,hk⟩
theorem WrX.appT{w w9:World}{B q g:Nat}{s:WX}{ca:Option Addr}{cc:Nat}{ta:Option Addr}{tc:Nat}{ma:Option Addr}{mc:Nat}{o:Obj}{p:UT}{a9:Option Addr}{c9:Nat}(h:WrX w B q g s ca cc ta tc ma mc)
  (hg:(w.alloc o).grownBy w9 (Value.slice ta s.traps.length tc).ownBlock) (ho:w9.ownsRow B D2e 4 (.slice a9 (s.traps.length+1) c9) (s.traps.length+1) ((s.traps++[p]).flatMap UT.cells)):
  WrX (w9.setCell ⟨g,2,none⟩ (.slice a9 (s.traps.length+1) c9)) B q g (s.trap p) ca cc a9 c9 ma mc/\A0z B q w (w9.setCell ⟨g,2,none⟩ (.slice a9 (s.traps.length+1) c9))/\w9.heap[g]? =some (.cells #[.pointer (some ⟨q,0,none⟩),.slice ca s.code.length cc,.slice ta s.traps.length tc,.slice ma s.maps.length mc,.int .i64 s.dp,.int .i64 s.bd] WrT (0,0)):=by
 obtain⟨hkt,hke,hk,ht⟩:=h.grow h.traps (.inr (.inl rfl)) hg;have hn:(s.traps++[p]).length=s.traps.length+1:=by simp
 obtain⟨h1,h2⟩:=WrX.put (s':=s.trap p) (ca:=ca) (cc:=cc) (ta:=a9) (tc:=c9) (ma:=ma) (mc:=mc) (q:=q) (B:=B) 2 (.slice a9 (s.traps.length+1) c9) hk (by show _= #[_,_,Value.slice a9 (s.traps++[p]).length c9,_,_,_];rw[hn];rfl)
  (A0k h.code hkt (by decide)) (by show w9.ownsRow B D2e 4 (.slice a9 (s.traps++[p]).length c9) (s.traps++[p]).length _;rw[hn];exact ho) (A0k h.maps hkt (by decide)) (fun y hy=>(h.each y hy).keptT hkt (by decide)) ht h.gB h.qB
 exact⟨h1,hke.trans h2,hk⟩
theorem A4w{α:Type}{z:Nat}{enc:α->List Value}(hz:∀x,(enc x).length=z){w:World}{B:Nat}{e:TypeId}{a:Option Addr}{n c:Nat}{xs:List α}(h:w.ownsRow B e z (.slice a n c) n (xs.flatMap enc))(i:Nat)(hi:i<xs.length)(hn:i<n)(z0:0<z):∃b,a=some ⟨b,0,none⟩/\B<=b/\b<w.heap.size/\∀j,j<z->w.cell? ⟨b,i*z+j,none⟩=(enc xs[i])[j]? :=by
 rcases h.2 with⟨h1,h2⟩|⟨g,cap,cur,hv,hb,hg,r⟩
 ·cases h1
  omega
 cases hv
 refine⟨g,rfl,hb,A0r hg,fun j hj=> ?_⟩
 have hlt:i*z+j<n*z:=by
  have:(i+1)*z<=n*z:=Nat.mul_le_mul_right _ (by omega);rw[Nat.add_mul]at this;omega
 rw[h.cellAt (i*z+j) hlt,B2b hz xs i hi j hj]
theorem D2k{α:Type}{z:Nat}{enc:α->List Value}(hz:∀x,(enc x).length=z){w:World}{B:Nat}{e:TypeId}{b n c:Nat}{xs:List α}(h:w.ownsRow B e z (.slice (some ⟨b,0,none⟩) n c) n (xs.flatMap enc))(i o:Nat)(y:α)(v:Value)(hi:i<xs.length)(ho:o<z)(he:(enc xs[i]).set o v=enc y):(w.setCell ⟨b,i*z+o,none⟩ v).ownsRow B e z (.slice (some ⟨b,0,none⟩) n c) n ((xs.set i y).flatMap enc):=by
 have hl:(xs.set i y).length=xs.length:=List.length_set;refine⟨by rw[A4y hz,hl,<-A4y hz];exact h.1,?_⟩
 rcases h.2 with⟨h1,h2⟩|⟨g,cap,cur,hv,hb,hg,h1,h2,h3,h4⟩
 ·cases h1
 cases hv
 refine .inr ⟨b,c,cur.setIfInBounds (i*z+o) v,rfl,hb,A1k hg _ v,h1,h2,by simpa using h3,?_⟩;rw[Array.toList_setIfInBounds,List.take_set,h4];exact C4v hz xs i o y v hi ho he
theorem WrX.setN{w:World}{B q g b:Nat}{s:WX}{cc:Nat}{ta:Option Addr}{tc:Nat}{ma:Option Addr}{mc:Nat}(h:WrX w B q g s (some ⟨b,0,none⟩) cc ta tc ma mc)(i:Nat)(hi:i<s.code.length)(v:Int):
  WrX (w.setCell ⟨b,i*7+1,none⟩ (.int .i64 v)) B q g {s with code:=s.code.set i {s.code[i]with n:=v} } (some ⟨b,0,none⟩) cc ta tc ma mc/\A0z B q w (w.setCell ⟨b,i*7+1,none⟩ (.int .i64 v)):=by
 have hl:(s.code.set i {s.code[i]with n:=v}).length=s.code.length:=List.length_set
 have hB:B<=b/\∃cur,w.heap[b]? =some (.cells cur A2e (0,0)):=by
  rcases h.code.2 with⟨h1,h2⟩|⟨g',cap,cur,hv,hb,hg,r⟩
  ·cases h1
  cases hv
  exact⟨hb,cur,hg⟩
 obtain⟨hBb,cur,hcur⟩:=hB;have hkt:=A1p hcur (i*7+1) (.int .i64 v);have hcs:=D2k IN.cells_length h.code i 1 {s.code[i]with n:=v} (.int .i64 v) hi (by decide) rfl;have hqb:=h.qB
 refine⟨⟨?_,?_,A0k h.traps hkt (by decide),A0k h.maps hkt (by decide),fun p hp=>(h.each p hp).keptT hkt (by decide),h.tape.set (by omega) _ _,h.gB,h.qB⟩,A0z.set ⟨hBb,by rw[hcur];exact fun hh=>hh.1 rfl⟩ _ _⟩
 ·dsimp only;rw[hl];exact hkt.2 _ _ _ _ h.k (by decide)
 dsimp only;rw[hl];exact hcs
def D9j(B q g:Nat)(s:WX)(ca:Option Addr)(cc:Nat)(ta:Option Addr)(tc:Nat)(stk:List (List UInt8))(w:World)(e:Ending)(w':World):Prop:=
 e= .returned (.int .i64 (s.code.length:Nat))/\∃s' ma mc,(s'=s\/∃la ln lc sa sn sc,s'=s.map ⟨(s.code.length:Nat),la,ln,lc,D1s,sa,sn,sc,stk⟩)/\WrX w' B q g s' ca cc ta tc ma mc/\A0z B q w w'
def SM3(g:Nat)(v:Value)(z:World):Prop:=z.cell? ⟨g,3,none⟩=some v
theorem A6p(w:World)(B q g:Nat)(s:WX)(ca:Option Addr)(cc:Nat)(ta:Option Addr)(tc:Nat)(ma:Option Addr)(mc:Nat)(sa:Option Addr)(sn sc:Nat)(stk:List (List UInt8))(hx:WrX w B q g s ca cc ta tc ma mc)(hst:w.ownsRow B 9 1 (.slice sa sn sc) sn (stk.map B0d))(hn:s.code.length<=200000)(hm:s.maps.length<=200000)(hB:B<=w.heap.size):
  Calls Tryz.prog 161 #[.pointer (some ⟨g,0,none⟩),.slice sa sn sc] w (D9j B q g s ca cc ta tc stk w):=by
 have HX:=hzz hx;have HS:=hzz hx;obtain⟨c0,c1,c2,c3,c4,c5,f1,f2,f3,f4,f5,lt⟩:=hx.box;have HST:=hzz hst;have HBB:=hzz hB;have HML:=hzz hm;clear hx c0 c2 c4 c5 f1 f2 f4 f5 hst hB
 obtain⟨cn,hcn⟩:=exz (s.code.length);have HCN:=hzz hcn;rw[<-hcn]at c1 hn
 have HRR:=hzz (show ∀e w',(e= .returned (.int .i64 (cn:Nat))/\∃s' ma mc,(s'=s\/∃la ln lc sa sn sc,s'=s.map ⟨(cn:Nat),la,ln,lc,D1s,sa,sn,sc,stk⟩)/\WrX w' B q g s' ca cc ta tc ma mc/\A0z B q w w')->D9j B q g s ca cc ta tc stk w e w' from fun e w' h=>by rw[hcn]at h;exact h)
 clear hcn;have key:∀(W:World) (mn:Nat),mn=s.maps.length->W=w->True:=fun _ _ _ _=>trivial
 clear key;obtain⟨mn,hmn⟩:=exz (s.maps.length);have HMN:=hzz hmn;rw[<-hmn]at c3 hm;clear hmn;by_cases h0:mn=0
 ·have e1:decide (((mn:Nat):Int)>0)=false:=by simp;omega
  have e1b:decide (0<mn)=false:=by simp;omega
  clear h0;go_enter Tryz.func161,Tryz.ntmps161
  go_upto_region 5 with fail
  have HX6:=hzz (HX.out.below (brz.drew));have HST6:=hzz (A0x HST.out (brz.drew));have HK6:=hzz (show A0z B q w w.drew from A0z.of (brz.drew))
  have HB6:=hzz (show B<=w.drew.heap.size from HBB.out)
  have hSw:SM3 g (.slice ma mn mc) w.drew:=by
   have:=A0a HX6.out.k 3 rfl;rw[<-HMN.out]at this;exact this
  have l0:∀z,SM3 g (.slice ma mn mc) z->z.cell? ⟨g,3,none⟩=some (.slice ma mn mc):=fun z h=>h
  clear c1 c3 f3 lt HX HST HBB
  refine A0t (SM3 g (.slice ma mn mc)) 13 [(0,true),(1,true),(2,true),(3,true),(4,true),(5,true),(7,true),(6,false),(8,true),(9,false),(10,false),(11,true),(12,true)] (by kernel_rfl) (by kernel_rfl) (fun c a d v w h=>by cases d<;>exact h) ?_
  generalize w.drew=W6 at*
  iterate 7
   refine A0d fun K hK=>tkF ?_
   go_simp
   try go_bits
   refine hK _ _ ?_;clear hK K
  refine A0d fun K hK=>alF ?_
  go_step;refine(B4i W6).mono ?_;rintro e w7 ⟨la,lc,rfl,hlo,hb7⟩;have HLO:=hzz (A1y hlo HB6.out);have HX7:=hzz (HX6.out.below hb7);have HST7:=hzz (A0x HST6.out hb7)
  have HK7:=hzz (HK6.out.trans (A0z.of hb7));have HB7:=hzz (Nat.le_trans HB6.out hb7.size);have hSx:SM3 g (.slice ma mn mc) w7:=A0c hb7 hSw;clear hSw HX6 HK6 HB6 HST6 hlo hb7;have hSw:=hSx
  clear hSx;go_simp
  first|refine⟨hSw,hK _ _ ?_⟩|refine hK _ _ ?_
  clear hK K
  iterate 1
   refine A0d fun K hK=>tkF ?_
   go_simp
   try go_bits
   refine hK _ _ ?_;clear hK K
  refine A0d fun K hK=>alF ?_
  go_step;have hal:Below w7.heap.size w7 (w7.alloc (.cells #[.int .i64 (cn:Nat),.slice la 7 lc,.slice sa sn sc] B7r)):=A0f _ _
  have hSx:SM3 g (.slice ma mn mc) (w7.alloc (.cells #[.int .i64 (cn:Nat),.slice la 7 lc,.slice sa sn sc] B7r)):=A0c hal hSw;refine⟨hSx,hK _ _ ?_⟩;clear hK K;refine A0d fun K hK=>alF ?_
  change Oper.wp _ _ _ _ _ _
  have HOM:=hzz (show(w7.alloc (.cells #[.int .i64 (cn:Nat),.slice la 7 lc,.slice sa sn sc] B7r)).ownsRow B B7r 3 (.slice ma mn mc) mn (s.maps.flatMap UP.cells)from by
   rw[HMN.out];exact HX7.out.maps.alloc _)
  refine A3h C5n (ops:= #[]) rfl _ _ _ rfl B _ mn _ rfl HOM.out _ 1 _ rfl (Src.litS (m:=1) rfl rfl C5n.1) (by omega) (by unfold maxLen;omega) (Nat.le_trans HB7.out (by simp)) ?_
  intro v9 w9 hown9 hg9 hb9;have hown8:w9.ownsRow B B7r 3 v9 (mn+1) ((s.maps++[(⟨(cn:Nat),la,7,lc,D1s,sa,sn,sc,stk⟩:UP)]).flatMap UP.cells):=(by rw[List.flatMap_append];exact hown9)
  obtain⟨a9,c9,rfl,-,-⟩:=Ss.ofOwn UP.cells_length (by decide) hown8
  have HAP:=hzz (HX7.out.appM (p:=⟨(cn:Nat),la,7,lc,D1s,sa,sn,sc,stk⟩) ⟨HLO.out,HST7.out⟩ (by rw[<-HMN.out];exact hg9) (by rw[<-HMN.out];exact hown8));rw[<-HMN.out]at HAP
  have hSn:SM3 g (.slice ma mn mc) w9:=A0a HAP.out.2.2 3 rfl;clear hSw hSx hal hown9 hown8 hg9 hb9 HOM;have hSw:=hSn;clear hSn;refine⟨hSw,hK _ _ ?_⟩;clear hK K
  iterate 2
   refine A0d fun K hK=>tkF ?_
   go_simp
   try go_bits
   refine hK _ _ ?_;clear hK K
  have fo:=A0n HAP.out.2.2 3;have lto:=A0r HAP.out.2.2;have co:=A0a HAP.out.2.2 3 rfl;refine A1u (laF ?_);go_step;have HWR:=hzz HAP.out.1;have HKR:=hzz (HK7.out.trans HAP.out.2.1)
  clear HAP fo lto co hSw l0 HX7 HK7 HST7 HLO;generalize w9.setCell ⟨g,3,none⟩ (.slice a9 (mn+1) c9)=V at*
  go_wp2_with fail
  go_ret;exact HRR.out _ _ ⟨rfl,_,_,_,.inr ⟨la,7,lc,sa,sn,sc,rfl⟩,HWR.out,HKR.out⟩
 obtain⟨m,hm1⟩:∃m,mn=m+1:=⟨mn-1,by omega⟩;have hmx:s.maps.length=m+1:=by rw[<-HMN.out];exact hm1
 obtain⟨b,hb,hBb,hbl,hbc⟩:=A4w UP.cells_length HX.out.maps m (by omega) (by omega) (by decide);have hb0:=hbc 0 (by decide);obtain⟨pl,hpl⟩:∃pl,pl=(s.maps[m]).pl:=⟨_,rfl⟩
 have hb1:w.cell? ⟨b,m*3,none⟩=some (.int .i64 pl):=by rw[hpl];exact hb0
 have e1:decide (((m:Nat):Int)+1>0)=true:=decide_eq_true (by omega);have e1b:decide (0<m+1)=true:=by simp
 subst hm1;have hma:=hb;clear hbc hb0 hpl hBb h0;have HMA:=hzz hma;rw[hma]at c3;clear hb hma;by_cases h2:pl=(cn:Nat)
 ·subst h2;have e2:(((cn:Nat):Int)==((cn:Nat):Int))=true:=by simp
  go_enter Tryz.func161,Tryz.ntmps161
  go_wp2_with fail
  go_ret;exact HRR.out _ _ ⟨rfl,s,ma,mc,.inl rfl,HS.out,A0z.refl _ _ _⟩
 have e2:(pl==((cn:Nat):Int))=false:=by simpa using h2
 clear h2;go_enter Tryz.func161,Tryz.ntmps161
 go_upto_region 5 with fail
 rw[<-HMA.out]at c3;have HX6:=hzz (HX.out.below (brz.drew));have HST6:=hzz (A0x HST.out (brz.drew));have HK6:=hzz (show A0z B q w w.drew from A0z.of (brz.drew))
 have HB6:=hzz (show B<=w.drew.heap.size from HBB.out)
 have hSw:SM3 g (.slice ma (m+1) mc) w.drew:=by
  have:=A0a HX6.out.k 3 rfl;rw[<-HMN.out]at this;exact this
 have l0:∀z,SM3 g (.slice ma (m+1) mc) z->z.cell? ⟨g,3,none⟩=some (.slice ma (m+1) mc):=fun z h=>h
 clear c1 c3 f3 lt HX HST HBB
 refine A0t (SM3 g (.slice ma (m+1) mc)) 13 [(0,true),(1,true),(2,true),(3,true),(4,true),(5,true),(7,true),(6,false),(8,true),(9,false),(10,false),(11,true),(12,true)] (by kernel_rfl) (by kernel_rfl) (fun c a d v w h=>by cases d<;>exact h) ?_
 generalize w.drew=W6 at*
 iterate 7
  refine A0d fun K hK=>tkF ?_
  go_simp
  try go_bits
  refine hK _ _ ?_;clear hK K
 refine A0d fun K hK=>alF ?_
 go_step;refine(B4i W6).mono ?_;rintro e w7 ⟨la,lc,rfl,hlo,hb7⟩;have HLO:=hzz (A1y hlo HB6.out);have HX7:=hzz (HX6.out.below hb7);have HST7:=hzz (A0x HST6.out hb7)
 have HK7:=hzz (HK6.out.trans (A0z.of hb7));have HB7:=hzz (Nat.le_trans HB6.out hb7.size);have hSx:SM3 g (.slice ma (m+1) mc) w7:=A0c hb7 hSw;clear hSw HX6 HK6 HB6 HST6 hlo hb7;have hSw:=hSx
 clear hSx;go_simp
 first|refine⟨hSw,hK _ _ ?_⟩|refine hK _ _ ?_
 clear hK K
 iterate 1
  refine A0d fun K hK=>tkF ?_
  go_simp
  try go_bits
  refine hK _ _ ?_;clear hK K
 refine A0d fun K hK=>alF ?_
 go_step;have hal:Below w7.heap.size w7 (w7.alloc (.cells #[.int .i64 (cn:Nat),.slice la 7 lc,.slice sa sn sc] B7r)):=A0f _ _
 have hSx:SM3 g (.slice ma (m+1) mc) (w7.alloc (.cells #[.int .i64 (cn:Nat),.slice la 7 lc,.slice sa sn sc] B7r)):=A0c hal hSw;refine⟨hSx,hK _ _ ?_⟩;clear hK K
 refine A0d fun K hK=>alF ?_
 change Oper.wp _ _ _ _ _ _
 have HOM:=hzz (show(w7.alloc (.cells #[.int .i64 (cn:Nat),.slice la 7 lc,.slice sa sn sc] B7r)).ownsRow B B7r 3 (.slice ma (m+1) mc) (m+1) (s.maps.flatMap UP.cells)from by
  rw[HMN.out];exact HX7.out.maps.alloc _)
 refine A3h C5n (ops:= #[]) rfl _ _ _ rfl B _ (m+1) _ rfl HOM.out _ 1 _ rfl (Src.litS (m:=1) rfl rfl C5n.1) (by omega) (by unfold maxLen;omega) (Nat.le_trans HB7.out (by simp)) ?_
 intro v9 w9 hown9 hg9 hb9;have hown8:w9.ownsRow B B7r 3 v9 ((m+1)+1) ((s.maps++[(⟨(cn:Nat),la,7,lc,D1s,sa,sn,sc,stk⟩:UP)]).flatMap UP.cells):=(by rw[List.flatMap_append];exact hown9)
 obtain⟨a9,c9,rfl,-,-⟩:=Ss.ofOwn UP.cells_length (by decide) hown8
 have HAP:=hzz (HX7.out.appM (p:=⟨(cn:Nat),la,7,lc,D1s,sa,sn,sc,stk⟩) ⟨HLO.out,HST7.out⟩ (by rw[<-HMN.out];exact hg9) (by rw[<-HMN.out];exact hown8));rw[<-HMN.out]at HAP
 have hSn:SM3 g (.slice ma (m+1) mc) w9:=A0a HAP.out.2.2 3 rfl;clear hSw hSx hal hown9 hown8 hg9 hb9 HOM;have hSw:=hSn;clear hSn;refine⟨hSw,hK _ _ ?_⟩;clear hK K
 iterate 2
  refine A0d fun K hK=>tkF ?_
  go_simp
  try go_bits
  refine hK _ _ ?_;clear hK K
 have fo:=A0n HAP.out.2.2 3;have lto:=A0r HAP.out.2.2;have co:=A0a HAP.out.2.2 3 rfl;refine A1u (laF ?_);go_step;have HWR:=hzz HAP.out.1;have HKR:=hzz (HK7.out.trans HAP.out.2.1)
 clear HAP fo lto co hSw l0 HX7 HK7 HST7 HLO;generalize w9.setCell ⟨g,3,none⟩ (.slice a9 ((m+1)+1) c9)=V at*
 go_wp2_with fail
 go_ret;exact HRR.out _ _ ⟨rfl,_,_,_,.inr ⟨la,7,lc,sa,sn,sc,rfl⟩,HWR.out,HKR.out⟩
end
end Go.Proofs.YtclpkipaehpkdaaGreatDoor
