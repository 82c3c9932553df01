/- asm -/
import Derived.Test.YtclpkipaehpkdaaGreatDoorQ16AsmMade
set_option linter.unusedVariables false
set_option linter.unusedSimpArgs false
set_option maxRecDepth 100000
set_option maxHeartbeats 64000000
namespace Go.Proofs.YtclpkipaehpkdaaGreatDoor
section
open Go.ChangeShapes Go.WideShapes Go.ChangeAt Go.RowKit Go.Maps
def B7d(B g:Nat)(s:LW)(l:List IN)(n:Nat)(w:World)(e:Ending)(w':World):Prop:=
 ∃ba bn bc ga,e= .returned (.tuple #[.slice ba bn bc,.slice (some ⟨ga,0,none⟩) (n+1) (n+1)])/\A3c w' w.heap.size (.slice ba bn bc) bn (s.code l).2/\Sl A5f w' ba bn (s.code l).2/\bn<=bc/\A6g w' ga (A1g l l.length)/\w.heap.size<=ga/\LoS w' B g (s.code l).1/\A0u B w w'
structure CdJ(w V:World)(B g gr ga gx gy:Nat)(R:List RW)(P:List Int)(x:IN)(r:RW)(s:LW):Prop where
 hs:LoS V B g s
 hk:A0u B w V
 hr:A5g V gr R
 ha:A6g V ga P
 hx:A3j gx x V
 hy:V.heap[gy]? =some (.cells r.cells.toArray B2y (0,0))
theorem CdJ.call{w V V':World}{B g gr ga gx gy:Nat}{R:List RW}{P:List Int}{x:IN}{r:RW}{s s':LW}(h:CdJ w V B g gr ga gx gy R P x r s)(hs:LoS V' B g s')(hk:A0u B V V'):CdJ w V' B g gr ga gx gy R P x r s':=
 ⟨hs,h.hk.trans hk,h.hr.keepL hk,h.ha.keepL hk,h.hx.keepL hk,hk.row h.hy (by decide) (by decide)⟩
theorem CdJ.below{w V V':World}{B g gr ga gx gy:Nat}{R:List RW}{P:List Int}{x:IN}{r:RW}{s:LW}(h:CdJ w V B g gr ga gx gy R P x r s)(hb:Below V.heap.size V V'):CdJ w V' B g gr ga gx gy R P x r s:=
 h.call (h.hs.below hb) (A0u.of hb)
theorem CdJ.put{w V:World}{B g gr ga gx gy:Nat}{R:List RW}{P:List Int}{x:IN}{r r':RW}{s:LW}(h:CdJ w V B g gr ga gx gy R P x r s)(hw:w.heap.size<=gy)(h0:0<w.heap.size)(h1:gr≠gy)(h2:ga≠gy)(h3:gx≠gy)(o:Nat)(v:Value)(he:r.cells.toArray.setIfInBounds o v=r'.cells.toArray):CdJ w (V.setCell ⟨gy,o,none⟩ v) B g gr ga gx gy R P x r' s:=
 ⟨h.hs.setO h.hy (by decide) (by decide) (by omega) o v,h.hk.thenB (brz.setCell hw v),A1r h.hr h1 o v,A1r h.ha h2 o v,A1r h.hx h3 o v,by rw[<-he];exact A1k h.hy o v⟩
theorem C3y:(Tryz.prog.info? B2y).map (·.size)=some 4:=by kernel_rfl
theorem A3c.keepL{B:Nat}{w w':World}{B':Nat}{v:Value}{m:Nat}{bs:List UInt8}(h:A3c w B' v m bs)(hk:A0u B w w'):A3c w' B' v m bs:=by
 rcases h with h|⟨g,C,rfl,hg,h⟩
 ·exact .inl (A0u.own h hk (by decide) (by decide))
 have hg':=hk.row hg (by decide) (by decide);refine .inr ⟨g,C,rfl,hg',h.1,fun hn=> ?_⟩;obtain⟨b,off,ha,hlt,hc⟩:=h.2 hn;simp only[Option.some.injEq,Addr.mk.injEq]at ha;obtain⟨rfl,rfl,_⟩:=ha
 refine⟨g,0,rfl,Nat.lt_of_lt_of_le hlt hk.size,fun i hi=> ?_⟩;rw[<-hc i hi];unfold World.cell?;rw[hg,hg']
theorem A3c.mono{w:World}{B B':Nat}{v:Value}{m:Nat}{bs:List UInt8}(h:A3c w B v m bs)(hB:B'<=B):A3c w B' v m bs:=by
 rcases h with h|h
 ·exact .inl (A1y h hB)
 exact .inr h
theorem A3c.slK{B:Nat}{w w':World}{B':Nat}{a:Option Addr}{c m:Nat}{bs:List UInt8}(h:A3c w B' (.slice a m c) m bs)(hk:A0u B w w')(_hs:Sl A5f w a m bs):Sl A5f w' a m bs:=by
 obtain⟨a',c',e,hs,_⟩:=(h.keepL hk).sl
 cases e
 exact hs
def D7u(g:Nat)(x:IN)(w:World):Prop:=A3j g x w
def B0e(w w':World):Prop:=Below w.heap.size w w'
theorem B8k(r:RW):r.cells.toArray.all (·.oneCell')=true:=by simp[RW.cells,Value.oneCell']
theorem C6c(w:World)(B g:Nat)(s:LW)(a:Option Addr)(n cap:Nat)(l:List IN)(h:LoS w B g s)(hl:Ss 7 IN.cells w a n l)(hb:D5c B a n)(hf:∀x∈l,B2w x)(hn:n<=4096)(hsz:s.l.length<=999990000000)(hB:B<=w.heap.size)(hB0:0<B):
  Calls Tryz.prog 73 #[.pointer (some ⟨g,0,none⟩),.slice a n cap] w (B7d B g s l n w):=by
 have HS0:=hzz h;have HL:=hzz hl;have HLn:=hzz hl.1;have HLB:=hzz hb;have HF:=hzz hf;have HBW:=hzz hB;have hw0:0<w.heap.size:=by omega
 have hm1:∀W,(Instr.makeSlice 112 (.int .i64 n) (.int .i64 n)).run Tryz.prog W= .ok (.slice (some ⟨W.heap.size,0,none⟩) n n) (W.alloc (.cells ((List.replicate n rz).flatMap RW.cells).toArray B2y)):=fun W=>D0v W n (by omega)
 have hm2:∀W,(Instr.makeSlice 138 (.int .i64 ((n:Int)+1)) (.int .i64 ((n:Int)+1))).run Tryz.prog W= .ok (.slice (some ⟨W.heap.size,0,none⟩) (n+1) (n+1)) (W.alloc (.cells ((List.replicate (n+1) (0:Int)).map (Value.int .i64)).toArray 3)):=fun W=>C1g W n (by omega)
 generalize hz1:((List.replicate n rz).flatMap RW.cells).toArray=Z1 at*;generalize hz2:((List.replicate (n+1) (0:Int)).map (Value.int .i64)).toArray=Z2 at*;have HZ1:=hzz hz1;have HZ2:=hzz hz2
 clear h hl hb hf hB hz1 hz2;go_enter Tryz.func73,Tryz.ntmps73
 go_upto_region 3 with fail
 clear hm1 hm2;have hb2:Below w.heap.size w ((w.alloc (.cells Z1 B2y)).alloc (.cells Z2 3)):=((Below.refl w.heap.size w).alloc nlz _).alloc (by simp) _
 have HR0:=hzz (show A5g ((w.alloc (.cells Z1 B2y)).alloc (.cells Z2 3)) w.heap.size (A3g (s.raws 0 l).2 0) by
  unfold A5g;rw[C2b,A9u,HLn.out,HZ1.out,Below.heap_alloc _ _ _ (by simp)];exact heap_alloc_last w _)
 have HA0:=hzz (show A6g ((w.alloc (.cells Z1 B2y)).alloc (.cells Z2 3)) (w.heap.size+1) (A1g l 0) by
  unfold A6g;rw[B6p,HLn.out,HZ2.out];have h:=heap_alloc_last (w.alloc (.cells Z1 B2y)) (.cells Z2 3);rw[show(w.alloc (.cells Z1 B2y)).heap.size=w.heap.size+1 by simp]at h;exact h)
 have HSA:=hzz (HS0.out.below hb2);have HKA:=hzz (A0u.of hb2:A0u B w ((w.alloc (.cells Z1 B2y)).alloc (.cells Z2 3)))
 have hWs:w.heap.size+1<((w.alloc (.cells Z1 B2y)).alloc (.cells Z2 3)).heap.size:=by simp
 clear hb2 HZ1 HZ2;generalize(w.alloc (.cells Z1 B2y)).alloc (.cells Z2 3)=W0 at*
 go_wp2_with fail
 go_loopg [26] n (fun gn i wr=>∃j:Nat,j<=n/\gn=n-j/\i= .int .i64 j/\Hid (LoS wr B g (s.raws 0 (l.take j)).1)/\Hid (A0u B w wr)/\Hid (A5g wr w.heap.size (A3g (s.raws 0 l).2 j))/\Hid (A6g wr (w.heap.size+1) (A1g l j)))
 case atStart=>exact⟨0,by omega,by omega,by go_num,HSA,HKA,HR0,HA0⟩
 clear HSA HKA HR0 HA0 hWs;obtain⟨j,hj,rfl,rfl,HS,HK,HR,HA⟩:=hrel;by_cases hlt:j<n
 ·obtain⟨b,off,x,rfl,hbl,hx,q⟩:=(HK.out.ss HL.out HLB.out).getC j hlt;have q0:=q 0 (by omega);have q1:=q 1 (by omega);have q2:=q 2 (by omega);have q3:=q 3 (by omega);have q4:=q 4 (by omega)
  have q5:=q 5 (by omega);have q6:=q 6 (by omega);rw[Nat.add_zero]at q0;simp only[IN.cells,List.getElem?_cons_zero,List.getElem?_cons_succ]at q0 q1 q2 q3 q4 q5 q6;have hj1:(j:Int)<n:=by omega
  have HFX:=hzz (HF.out x (List.mem_of_getElem? hx));have HTK:=hzz (B9a s l j x hx);have HAT:=hzz (C2t s l j x hx);have HPS:=hzz (C8k hx)
  have hlen:((s.raws 0 (l.take j)).1).l.length<=s.l.length+12*j:=by
   have h1:=B7c s 0 (l.take j);rw[List.length_take,HLn.out,Nat.min_eq_left hj]at h1;exact h1
  generalize s.raws 0 (l.take j)=SJ at*;obtain⟨sj,lj⟩:=SJ;dsimp only at HS HTK HAT hlen;obtain⟨p,hp⟩:=exz (A3q l j);have hpb:p<=3*j:=by rw[hp];exact C1n l j
  rw[<-hp]at HTK HAT HPS;have HP:=hzz hp;obtain⟨X,hX⟩:=exz (x);rw[<-hX]at HFX HTK HAT HPS;have HXX:=hzz hX;obtain⟨op,nn,mm,cl,nm,ds,tx⟩:=x;clear q hx hp hX
  go_upto_region 6 with fail
  have hal:=A0f wr (.cells #[.int .u8 (op:Nat),.int .i64 nn,.int .i64 mm,.string ⟨cl.toArray⟩,.string ⟨nm.toArray⟩,.string ⟨ds.toArray⟩,.string ⟨tx.toArray⟩] A2e)
  have HXB:=hzz (show A3j wr.heap.size X (wr.alloc (.cells #[.int .u8 (op:Nat),.int .i64 nn,.int .i64 mm,.string ⟨cl.toArray⟩,.string ⟨nm.toArray⟩,.string ⟨ds.toArray⟩,.string ⟨tx.toArray⟩] A2e)) by rw[HXX.out];exact heap_alloc_last wr _)
  have hws:w.heap.size+1<wr.heap.size:=A0r HA.out;have HS1:=hzz (HS.out.below hal);have HK1:=hzz (HK.out.trans (A0u.of hal));have HR1:=hzz (HR.out.below hal);have HA1:=hzz (HA.out.below hal)
  have hsz1:(wr.alloc (.cells #[.int .u8 (op:Nat),.int .i64 nn,.int .i64 mm,.string ⟨cl.toArray⟩,.string ⟨nm.toArray⟩,.string ⟨ds.toArray⟩,.string ⟨tx.toArray⟩] A2e)).heap.size=wr.heap.size+1:=by simp
  clear hal q0 q1 q2 q3 q4 q5 q6 HS HK HR HA hbl;generalize wr.alloc _=W at*;generalize wr.heap.size=gx at*;have HSZ1:=hzz hsz1
  have pa:W.cell? ⟨w.heap.size+1,j,none⟩=some (.int .i64 (p:Nat)):=HA1.out.cell (by rw[HP.out];exact A8g l j j nlz (by rw[HLn.out];exact hj))
  have po:W.cell? ⟨gx,0,none⟩=some (.int .u8 (op:Nat)):=by have h:=HXB.out.box.c0;rw[HXX.out]at h;exact h
  have hj2:(j:Int)<n+1:=by omega
  clear hsz1;have l0:∀z,B0e W z->z.cell? ⟨w.heap.size+1,j,none⟩=some (.int .i64 (p:Nat)):=fun z h=>A0c h pa
  have l1:∀z,B0e W z->z.cell? ⟨gx,0,none⟩=some (.int .u8 (op:Nat)):=fun z h=>A0c h po
  have hSw:B0e W W.drew:=brz.drew
  refine A0h (B0e W) (.of [(0,true),(1,true),(2,true),(3,true),(4,true),(5,true),(6,true),(7,false),(8,false)] (.stir [])) (by kernel_rfl) (by kernel_rfl) (fun c a d v w h=>by cases d<;>exact h) ?_
  iterate 7
   refine A0b fun K hK=>tkF ?_
   go_simp
   try go_bits
   refine hK _ _ ?_;clear hK K
  refine A0b fun K hK=>alF ?_
  go_step;have hzb:Below W.heap.size W (W.alloc (.cells #[.int .i64 0,.int .u8 0,.int .i64 0,.int .i64 0] B2y)).drew:=(brz.alloc nlz _).drew;refine⟨hzb,hK _ _ ?_⟩;clear hK K hSw;have HZB:=hzz hzb
  have HZR:=hzz (show(W.alloc (.cells #[.int .i64 0,.int .u8 0,.int .i64 0,.int .i64 0] B2y)).drew.heap[W.heap.size]? =some (.cells #[.int .i64 0,.int .u8 0,.int .i64 0,.int .i64 0] B2y (0,0))from heap_alloc_last W _)
  refine A0b fun K hK=>alF ?_
  refine wp_store_row B2y _ _ rfl W.heap.size #[.int .i64 (p:Nat),.int .u8 (op:Nat),.int .i64 0,.int .i64 0] rfl rfl B2y _ HZR.out C3y rfl (B8k ⟨(p:Nat),op,0,0⟩) ?_
  have hvb:Below W.heap.size W ((W.alloc (.cells #[.int .i64 0,.int .u8 0,.int .i64 0,.int .i64 0] B2y)).drew.setRow W.heap.size #[.int .i64 (p:Nat),.int .u8 (op:Nat),.int .i64 0,.int .i64 0]):=hzb.trans (below_setRow nlz _)
  have hvy:=setRow_heap _ W.heap.size _ #[.int .i64 (p:Nat),.int .u8 (op:Nat),.int .i64 0,.int .i64 0] _ _ HZR.out
  have HCJ:=hzz (show CdJ w ((W.alloc (.cells #[.int .i64 0,.int .u8 0,.int .i64 0,.int .i64 0] B2y)).drew.setRow W.heap.size #[.int .i64 (p:Nat),.int .u8 (op:Nat),.int .i64 0,.int .i64 0]) B g w.heap.size (w.heap.size+1) gx (gx+1) (A3g (s.raws 0 l).2 j) (A1g l j) X ⟨(p:Nat),op,0,0⟩ sj from
   ⟨HS1.out.below hvb,HK1.out.trans (A0u.of hvb),HR1.out.below hvb,HA1.out.below hvb,HXB.out.below hvb,by rw[<-HSZ1.out];exact hvy⟩)
  refine⟨hvb,hK _ _ ?_⟩;clear hK K hvb hvy hzb HZR HZB l0 l1 pa po HS1 HK1 HR1 HA1 HXB
  generalize hV:(W.alloc (.cells #[.int .i64 0,.int .u8 0,.int .i64 0,.int .i64 0] B2y)).drew.setRow W.heap.size #[.int .i64 (p:Nat),.int .u8 (op:Nat),.int .i64 0,.int .i64 0]=V at*
  have hVs:B0e W V:=by
   rw[<-hV];exact((brz.alloc nlz _).drew:Below W.heap.size W (W.alloc (.cells #[.int .i64 0,.int .u8 0,.int .i64 0,.int .i64 0] B2y)).drew).trans (below_setRow nlz _)
  refine A0m (fun y=>y=V) (fun y hy=>hy▸hVs) rfl ?_;refine A0p (fun y hy=> ?_);replace hy:=hy.symm;subst hy;have hgy:W.heap.size=gx+1:=HSZ1.out;rw[hgy];clear hV hVs hgy HSZ1
  have HFO:=hzz (fun W=>B1b W op (by have h:=HFX.out.op;rw[HXX.out]at h;exact h));obtain⟨f,hf⟩:=exz (A0g op);rw[<-hf]at HFO;have HFE:=hzz hf;clear hf;have hxb:=HCJ.out.hx
  rw[HXX.out]at hxb;obtain⟨j0,j1,j2,j3,j4,j5,j6,-,-,-,-,-,-⟩:=hxb.box;dsimp only at j0 j1 j2 j3 j4 j5 j6;clear hxb
  go_wp2_with fail
  refine(HFO.out V).mono ?_;rintro e V1 ⟨rfl,hb1⟩;have HCK:=hzz (HCJ.out.below hb1);clear hb1 HCJ HFO j0 j1 j2 j3 j4 j5 j6;obtain⟨RR,hRR⟩:=exz (sj.raw p X);rw[<-hRR]at HTK HAT;have HRR:=hzz hRR
  clear hRR
  go_upto_block 2 with fail
  go_cut [] (fun wx=>Hid (CdJ w wx B g w.heap.size (w.heap.size+1) gx (gx+1) (A3g (s.raws 0 l).2 j) (A1g l j) X RR.2 RR.1))
  case first=>
   by_cases hop:op=18
   ·have e18:((op:Int)==18)=true:=by rw[hop];rfl
    obtain⟨bq,hbq⟩:=exz (decide (X.cl=[]/\X.nm=[]/\X.m=0));have HBQ:=hzz hbq
    have HRA0:=show RR=(((sj.need bq 8).con X).1.need (decide (A0g op≠5)||decide (((sj.need bq 8).con X).2<=255)) 9,⟨(p:Nat),op,(((sj.need bq 8).con X).2:Nat),0⟩) by
     rw[HRR.out,hbq];unfold LW.raw;rw[if_pos (by rw[HXX.out];show op=18\/op=20;omega)];rw[HXX.out]
    clear hbq hop;have hl2:((sj.need bq 8).con X).1.l.length<=sj.l.length+4:=B7m (sj.need bq 8) X;have hi2:((sj.need bq 8).con X).2<=sj.l.length+4:=C7k (sj.need bq 8) X
    have HCO:=hzz (fun W hs hB9=>B4e W B g (sj.need bq 8) X hs HFX.out (show sj.l.length<=_ by omega) hB9)
    rw[show X.cells.toArray= #[.int .u8 (op:Nat),.int .i64 nn,.int .i64 mm,.string ⟨cl.toArray⟩,.string ⟨nm.toArray⟩,.string ⟨ds.toArray⟩,.string ⟨tx.toArray⟩] by rw[HXX.out];rfl]at HCO
    generalize(sj.need bq 8).con X=c2 at*;obtain⟨s2,i2⟩:=c2;dsimp only at HRA0 HCO hl2 hi2;have HRA:=hzz HRA0;clear HRA0;have hxb:=HCK.out.hx;rw[HXX.out]at hxb
    obtain⟨j0,j1,j2,j3,j4,j5,j6,-,-,-,-,-,-⟩:=hxb.box;dsimp only at j0 j1 j2 j3 j4 j5 j6;clear hxb
    go_upto_region 11 with fail
    go_cut [] (fun wx=>Hid (CdJ w wx B g w.heap.size (w.heap.size+1) gx (gx+1) (A3g (s.raws 0 l).2 j) (A1g l j) X ⟨(p:Nat),op,0,0⟩ (sj.need bq 8)))
    case first=>
     have HNN:=hzz (fun b=>A0v V1 B g sj b 8 HCK.out.hs);clear j0 j1 j2 j3 j4 j5 j6;by_cases hc0:cl=[]
     ·have t0:(cl==[])=true:=by rw[hc0];rfl
      have t1:cl.isEmpty=true:=by rw[hc0];rfl
      by_cases hc1:nm=[]
      ·have t2:(nm==[])=true:=by rw[hc1];rfl
       have t3:nm.isEmpty=true:=by rw[hc1];rfl
       have t4:(mm==0)=bq:=by
        rw[HBQ.out,HXX.out,hc0,hc1,Bool.eq_iff_iff,beq_iff_eq,decide_eq_true_iff];simp
       clear hc0 hc1;have hxb:=HCK.out.hx;rw[HXX.out]at hxb;obtain⟨j0,j1,j2,j3,j4,j5,j6,-,-,-,-,-,-⟩:=hxb.box;dsimp only at j0 j1 j2 j3 j4 j5 j6;clear hxb
       go_wp2_with fail
       refine(HNN.out bq).mono ?_;rintro e V2 ⟨rfl,hs2,hk2⟩
       go_wp2_with fail
       go_meet;exact hzz (HCK.out.call hs2 hk2)
      have t2:(nm==[])=false:=by simpa using hc1
      have t3:nm.isEmpty=false:=by simpa using hc1
      have hbb:bq=false:=by rw[HBQ.out,HXX.out];exact decide_eq_false (fun h=>hc1 h.2.1)
      subst hbb;clear hc0 hc1;have hxb:=HCK.out.hx;rw[HXX.out]at hxb;obtain⟨j0,j1,j2,j3,j4,j5,j6,-,-,-,-,-,-⟩:=hxb.box;dsimp only at j0 j1 j2 j3 j4 j5 j6;clear hxb
      go_wp2_with fail
      refine(HNN.out false).mono ?_;rintro e V2 ⟨rfl,hs2,hk2⟩
      go_wp2_with fail
      go_meet;exact hzz (HCK.out.call hs2 hk2)
     have t0:(cl==[])=false:=by simpa using hc0
     have t1:cl.isEmpty=false:=by simpa using hc0
     have hbb:bq=false:=by rw[HBQ.out,HXX.out];exact decide_eq_false (fun h=>hc0 h.1)
     subst hbb;clear hc0;have hxb:=HCK.out.hx;rw[HXX.out]at hxb;obtain⟨j0,j1,j2,j3,j4,j5,j6,-,-,-,-,-,-⟩:=hxb.box;dsimp only at j0 j1 j2 j3 j4 j5 j6;clear hxb
     go_wp2_with fail
     refine(HNN.out false).mono ?_;rintro e V2 ⟨rfl,hs2,hk2⟩
     go_wp2_with fail
     go_meet;exact hzz (HCK.out.call hs2 hk2)
    have HC2:=hcut;clear hcut j0 j1 j2 j3 j4 j5 j6;have hxb:=HC2.out.hx;rw[HXX.out]at hxb;obtain⟨j0,j1,j2,j3,j4,j5,j6,-,-,-,-,-,-⟩:=hxb.box;dsimp only at j0 j1 j2 j3 j4 j5 j6
    clear hxb
    go_wp2_with fail
    refine(HCO.out wc HC2.out.hs (Nat.le_trans HBW.out HC2.out.hk.size)).mono ?_;rintro e V3 ⟨rfl,hs3,hk3⟩;have HC3:=hzz (HC2.out.call hs3 hk3);clear hs3 hk3 HCO HC2 j0 j1 j2 j3 j4 j5 j6
    have yf:=A0n HC3.out.hy 2;have yl:=A0r HC3.out.hy;have yc:=A0a HC3.out.hy 2 rfl;dsimp only[RW.cells]at yc
    go_upto_region 13 with fail
    have HC4:=hzz (show CdJ w (V3.setCell ⟨gx+1,2,none⟩ (.int .i64 (i2:Nat))) B g w.heap.size (w.heap.size+1) gx (gx+1) (A3g (s.raws 0 l).2 j) (A1g l j) X ⟨(p:Nat),op,(i2:Nat),0⟩ _ from HC3.out.put (by omega) (by omega) (by omega) (by omega) (by omega) 2 (.int .i64 (i2:Nat)) rfl)
    clear yf yl yc HC3;generalize V3.setCell ⟨gx+1,2,none⟩ (.int .i64 (i2:Nat))=V4 at*;by_cases hf5:f=5
    ·have e5:((f:Int) !=5)=false:=by rw[hf5];rfl
     obtain⟨b5,hb5⟩:=exz (decide (i2<=255));have e6:decide ((i2:Int)<=255)=b5:=by rw[hb5];exact decide_eq_decide.2 (by omega)
     have HRB:=hzz (show RR=(s2.need b5 9,⟨(p:Nat),op,(i2:Nat),0⟩) by rw[HRA.out,<-HFE.out,hf5,hb5];rfl);have HNL:=hzz (A0v V4 B g s2 b5 9 HC4.out.hs)
     have y2:=A0a HC4.out.hy 2 rfl;dsimp only[RW.cells]at y2;clear hb5 hf5
     go_wp2_with fail
     refine HNL.out.mono ?_;rintro e V5 ⟨rfl,hs5,hk5⟩
     go_wp2_with fail
     go_meet;exact hzz (by rw[HRB.out];exact HC4.out.call hs5 hk5)
    have e5:((f:Int) !=5)=true:=by
     have:¬(f:Int)=5:=by omega
     simp[this]
    have HRB:=hzz (show RR=(s2.need true 9,⟨(p:Nat),op,(i2:Nat),0⟩) by rw[HRA.out,<-HFE.out];simp[hf5]);have HNL:=hzz (A0v V4 B g s2 true 9 HC4.out.hs);clear hf5
    go_wp2_with fail
    refine HNL.out.mono ?_;rintro e V5 ⟨rfl,hs5,hk5⟩
    go_wp2_with fail
    go_meet;exact hzz (by rw[HRB.out];exact HC4.out.call hs5 hk5)
   have o18:=hop;clear hop;by_cases hop:op=20
   ·have e18:((op:Int)==18)=false:=by rw[hop];rfl
    have e20:((op:Int)==20)=true:=by rw[hop];rfl
    obtain⟨bq,hbq⟩:=exz (decide (X.cl=[]/\X.nm=[]/\X.m=0));have HBQ:=hzz hbq
    have HRA0:=show RR=(((sj.need bq 8).con X).1.need (decide (A0g op≠5)||decide (((sj.need bq 8).con X).2<=255)) 9,⟨(p:Nat),op,(((sj.need bq 8).con X).2:Nat),0⟩) by
     rw[HRR.out,hbq];unfold LW.raw;rw[if_pos (by rw[HXX.out];show op=18\/op=20;omega)];rw[HXX.out]
    clear hbq hop;have hl2:((sj.need bq 8).con X).1.l.length<=sj.l.length+4:=B7m (sj.need bq 8) X;have hi2:((sj.need bq 8).con X).2<=sj.l.length+4:=C7k (sj.need bq 8) X
    have HCO:=hzz (fun W hs hB9=>B4e W B g (sj.need bq 8) X hs HFX.out (show sj.l.length<=_ by omega) hB9)
    rw[show X.cells.toArray= #[.int .u8 (op:Nat),.int .i64 nn,.int .i64 mm,.string ⟨cl.toArray⟩,.string ⟨nm.toArray⟩,.string ⟨ds.toArray⟩,.string ⟨tx.toArray⟩] by rw[HXX.out];rfl]at HCO
    generalize(sj.need bq 8).con X=c2 at*;obtain⟨s2,i2⟩:=c2;dsimp only at HRA0 HCO hl2 hi2;have HRA:=hzz HRA0;clear HRA0;have hxb:=HCK.out.hx;rw[HXX.out]at hxb
    obtain⟨j0,j1,j2,j3,j4,j5,j6,-,-,-,-,-,-⟩:=hxb.box;dsimp only at j0 j1 j2 j3 j4 j5 j6;clear hxb
    go_upto_region 11 with fail
    go_cut [] (fun wx=>Hid (CdJ w wx B g w.heap.size (w.heap.size+1) gx (gx+1) (A3g (s.raws 0 l).2 j) (A1g l j) X ⟨(p:Nat),op,0,0⟩ (sj.need bq 8)))
    case first=>
     have HNN:=hzz (fun b=>A0v V1 B g sj b 8 HCK.out.hs);clear j0 j1 j2 j3 j4 j5 j6;by_cases hc0:cl=[]
     ·have t0:(cl==[])=true:=by rw[hc0];rfl
      have t1:cl.isEmpty=true:=by rw[hc0];rfl
      by_cases hc1:nm=[]
      ·have t2:(nm==[])=true:=by rw[hc1];rfl
       have t3:nm.isEmpty=true:=by rw[hc1];rfl
       have t4:(mm==0)=bq:=by
        rw[HBQ.out,HXX.out,hc0,hc1,Bool.eq_iff_iff,beq_iff_eq,decide_eq_true_iff];simp
       clear hc0 hc1;have hxb:=HCK.out.hx;rw[HXX.out]at hxb;obtain⟨j0,j1,j2,j3,j4,j5,j6,-,-,-,-,-,-⟩:=hxb.box;dsimp only at j0 j1 j2 j3 j4 j5 j6;clear hxb
       go_wp2_with fail
       refine(HNN.out bq).mono ?_;rintro e V2 ⟨rfl,hs2,hk2⟩
       go_wp2_with fail
       go_meet;exact hzz (HCK.out.call hs2 hk2)
      have t2:(nm==[])=false:=by simpa using hc1
      have t3:nm.isEmpty=false:=by simpa using hc1
      have hbb:bq=false:=by rw[HBQ.out,HXX.out];exact decide_eq_false (fun h=>hc1 h.2.1)
      subst hbb;clear hc0 hc1;have hxb:=HCK.out.hx;rw[HXX.out]at hxb;obtain⟨j0,j1,j2,j3,j4,j5,j6,-,-,-,-,-,-⟩:=hxb.box;dsimp only at j0 j1 j2 j3 j4 j5 j6;clear hxb
      go_wp2_with fail
      refine(HNN.out false).mono ?_;rintro e V2 ⟨rfl,hs2,hk2⟩
      go_wp2_with fail
      go_meet;exact hzz (HCK.out.call hs2 hk2)
     have t0:(cl==[])=false:=by simpa using hc0
     have t1:cl.isEmpty=false:=by simpa using hc0
     have hbb:bq=false:=by rw[HBQ.out,HXX.out];exact decide_eq_false (fun h=>hc0 h.1)
     subst hbb;clear hc0;have hxb:=HCK.out.hx;rw[HXX.out]at hxb;obtain⟨j0,j1,j2,j3,j4,j5,j6,-,-,-,-,-,-⟩:=hxb.box;dsimp only at j0 j1 j2 j3 j4 j5 j6;clear hxb
     go_wp2_with fail
     refine(HNN.out false).mono ?_;rintro e V2 ⟨rfl,hs2,hk2⟩
     go_wp2_with fail
     go_meet;exact hzz (HCK.out.call hs2 hk2)
    have HC2:=hcut;clear hcut j0 j1 j2 j3 j4 j5 j6;have hxb:=HC2.out.hx;rw[HXX.out]at hxb;obtain⟨j0,j1,j2,j3,j4,j5,j6,-,-,-,-,-,-⟩:=hxb.box;dsimp only at j0 j1 j2 j3 j4 j5 j6
    clear hxb
    go_wp2_with fail
    refine(HCO.out wc HC2.out.hs (Nat.le_trans HBW.out HC2.out.hk.size)).mono ?_;rintro e V3 ⟨rfl,hs3,hk3⟩;have HC3:=hzz (HC2.out.call hs3 hk3);clear hs3 hk3 HCO HC2 j0 j1 j2 j3 j4 j5 j6
    have yf:=A0n HC3.out.hy 2;have yl:=A0r HC3.out.hy;have yc:=A0a HC3.out.hy 2 rfl;dsimp only[RW.cells]at yc
    go_upto_region 13 with fail
    have HC4:=hzz (show CdJ w (V3.setCell ⟨gx+1,2,none⟩ (.int .i64 (i2:Nat))) B g w.heap.size (w.heap.size+1) gx (gx+1) (A3g (s.raws 0 l).2 j) (A1g l j) X ⟨(p:Nat),op,(i2:Nat),0⟩ _ from HC3.out.put (by omega) (by omega) (by omega) (by omega) (by omega) 2 (.int .i64 (i2:Nat)) rfl)
    clear yf yl yc HC3;generalize V3.setCell ⟨gx+1,2,none⟩ (.int .i64 (i2:Nat))=V4 at*;by_cases hf5:f=5
    ·have e5:((f:Int) !=5)=false:=by rw[hf5];rfl
     obtain⟨b5,hb5⟩:=exz (decide (i2<=255));have e6:decide ((i2:Int)<=255)=b5:=by rw[hb5];exact decide_eq_decide.2 (by omega)
     have HRB:=hzz (show RR=(s2.need b5 9,⟨(p:Nat),op,(i2:Nat),0⟩) by rw[HRA.out,<-HFE.out,hf5,hb5];rfl);have HNL:=hzz (A0v V4 B g s2 b5 9 HC4.out.hs)
     have y2:=A0a HC4.out.hy 2 rfl;dsimp only[RW.cells]at y2;clear hb5 hf5
     go_wp2_with fail
     refine HNL.out.mono ?_;rintro e V5 ⟨rfl,hs5,hk5⟩
     go_wp2_with fail
     go_meet;exact hzz (by rw[HRB.out];exact HC4.out.call hs5 hk5)
    have e5:((f:Int) !=5)=true:=by
     have:¬(f:Int)=5:=by omega
     simp[this]
    have HRB:=hzz (show RR=(s2.need true 9,⟨(p:Nat),op,(i2:Nat),0⟩) by rw[HRA.out,<-HFE.out];simp[hf5]);have HNL:=hzz (A0v V4 B g s2 true 9 HC4.out.hs);clear hf5
    go_wp2_with fail
    refine HNL.out.mono ?_;rintro e V5 ⟨rfl,hs5,hk5⟩
    go_wp2_with fail
    go_meet;exact hzz (by rw[HRB.out];exact HC4.out.call hs5 hk5)
   have o20:=hop;clear hop;by_cases hf6:f=6
   ·have e18:((op:Int)==18)=false:=by rw[beq_eq_false_iff_ne];omega
    have e20:((op:Int)==20)=false:=by rw[beq_eq_false_iff_ne];omega
    have e6:((f:Int)==6)=true:=by rw[hf6];rfl
    have HRA0:=show RR=((sj.wide X).1,⟨(p:Nat),op,((sj.wide X).2:Nat),0⟩) by
     rw[HRR.out];unfold LW.raw;rw[if_neg (by rw[HXX.out];show ¬(op=18\/op=20);omega),if_pos (by rw[HXX.out];show A0g op=6;rw[<-HFE.out];exact hf6)];rw[HXX.out]
    clear o18 o20 hf6;have hi2:(sj.wide X).2<=sj.l.length+12:=C8i sj X;have HCO:=hzz (C5e V1 B g sj X HCK.out.hs HFX.out (by omega) (Nat.le_trans HBW.out HCK.out.hk.size))
    rw[show X.cells.toArray= #[.int .u8 (op:Nat),.int .i64 nn,.int .i64 mm,.string ⟨cl.toArray⟩,.string ⟨nm.toArray⟩,.string ⟨ds.toArray⟩,.string ⟨tx.toArray⟩] by rw[HXX.out];rfl]at HCO
    generalize sj.wide X=c2 at*;obtain⟨s2,i2⟩:=c2;dsimp only at HRA0 HCO hi2;have HRA:=hzz HRA0;clear HRA0;have hxb:=HCK.out.hx;rw[HXX.out]at hxb
    obtain⟨j0,j1,j2,j3,j4,j5,j6,-,-,-,-,-,-⟩:=hxb.box;dsimp only at j0 j1 j2 j3 j4 j5 j6;clear hxb
    go_wp2_with fail
    refine HCO.out.mono ?_;rintro e V3 ⟨rfl,hs3,hk3⟩;have HC3:=hzz (HCK.out.call hs3 hk3);clear hs3 hk3 HCO HCK j0 j1 j2 j3 j4 j5 j6;have yf:=A0n HC3.out.hy 2;have yl:=A0r HC3.out.hy
    have yc:=A0a HC3.out.hy 2 rfl;dsimp only[RW.cells]at yc
    go_wp2_with fail
    have HC4:=hzz (show CdJ w (V3.setCell ⟨gx+1,2,none⟩ (.int .i64 (i2:Nat))) B g w.heap.size (w.heap.size+1) gx (gx+1) (A3g (s.raws 0 l).2 j) (A1g l j) X ⟨(p:Nat),op,(i2:Nat),0⟩ _ from HC3.out.put (by omega) (by omega) (by omega) (by omega) (by omega) 2 (.int .i64 (i2:Nat)) rfl)
    go_meet;exact hzz (by rw[HRA.out];exact HC4.out)
   by_cases hf0:f=0
   ·have e18:((op:Int)==18)=false:=by rw[beq_eq_false_iff_ne];omega
    have e20:((op:Int)==20)=false:=by rw[beq_eq_false_iff_ne];omega
    have e6:((f:Int)==6)=false:=by rw[beq_eq_false_iff_ne];omega
    have e0:((f:Int)==0)=true:=by rw[hf0];rfl
    have HRA:=hzz (show RR=(sj.need false 8,⟨(p:Nat),op,0,0⟩) by
     rw[HRR.out];unfold LW.raw
     rw[if_neg (by rw[HXX.out];show ¬(op=18\/op=20);omega),if_neg (by rw[HXX.out];show ¬A0g op=6;rw[<-HFE.out];exact hf6),if_pos (by rw[HXX.out];show A0g op=0;rw[<-HFE.out];exact hf0)]
     rw[HXX.out])
    clear o18 o20 hf6 hf0;have HNL:=hzz (A0v V1 B g sj false 8 HCK.out.hs);have hxb:=HCK.out.hx;rw[HXX.out]at hxb;obtain⟨j0,j1,j2,j3,j4,j5,j6,-,-,-,-,-,-⟩:=hxb.box
    dsimp only at j0 j1 j2 j3 j4 j5 j6;clear hxb
    go_wp2_with fail
    refine HNL.out.mono ?_;rintro e V5 ⟨rfl,hs5,hk5⟩
    go_wp2_with fail
    go_meet;exact hzz (by rw[HRA.out];exact HCK.out.call hs5 hk5)
   have e18:((op:Int)==18)=false:=by rw[beq_eq_false_iff_ne];omega
   have e20:((op:Int)==20)=false:=by rw[beq_eq_false_iff_ne];omega
   have e6:((f:Int)==6)=false:=by rw[beq_eq_false_iff_ne];omega
   have e0:((f:Int)==0)=false:=by rw[beq_eq_false_iff_ne];omega
   have HRA0:=show RR=((sj.need (A8v X) 8).need (A4d nn) 8,⟨(p:Nat),op,A2y nn,mm⟩) by
    rw[HRR.out];unfold LW.raw
    rw[if_neg (by rw[HXX.out];show ¬(op=18\/op=20);omega),if_neg (by rw[HXX.out];show ¬A0g op=6;rw[<-HFE.out];exact hf6),if_neg (by rw[HXX.out];show ¬A0g op=0;rw[<-HFE.out];exact hf0)]
    rw[HXX.out];rfl
   clear o18 o20 hf6 hf0;have HPL:=hzz (C5f V1 X HFX.out.op)
   rw[show X.cells.toArray= #[.int .u8 (op:Nat),.int .i64 nn,.int .i64 mm,.string ⟨cl.toArray⟩,.string ⟨nm.toArray⟩,.string ⟨ds.toArray⟩,.string ⟨tx.toArray⟩] by rw[HXX.out];rfl]at HPL
   generalize A8v X=pb at*;have HRA:=hzz HRA0;clear HRA0;have hxb:=HCK.out.hx;rw[HXX.out]at hxb;obtain⟨j0,j1,j2,j3,j4,j5,j6,-,-,-,-,-,-⟩:=hxb.box
   dsimp only at j0 j1 j2 j3 j4 j5 j6;clear hxb
   go_wp2_with fail
   refine HPL.out.mono ?_;rintro e V2 ⟨rfl,hb2⟩;have HC2:=hzz (HCK.out.below hb2);clear hb2 HPL HCK j0 j1 j2 j3 j4 j5 j6;have HNL:=hzz (A0v V2 B g sj pb 8 HC2.out.hs)
   go_wp2_with fail
   refine HNL.out.mono ?_;rintro e V3 ⟨rfl,hs3,hk3⟩;have HC3:=hzz ((HC2.out.call hs3 hk3).below (brz.drew));clear hs3 hk3 HC2 HNL
   go_upto_region 9 with fail
   have hSw:D7u gx X V3.drew:=HC3.out.hx;have l1:∀z,D7u gx X z->z.cell? ⟨gx,1,none⟩=some (.int .i64 nn):=fun z h=>by have h2:=h.box.c1;rw[HXX.out]at h2;exact h2
   have l2:∀z,D7u gx X z->z.cell? ⟨gx,2,none⟩=some (.int .i64 mm):=fun z h=>by have h2:=h.box.c2;rw[HXX.out]at h2;exact h2
   refine A0h (D7u gx X) (.of [(0,true),(1,true),(2,true),(4,true),(5,true),(3,false),(6,true),(7,false),(8,true),(9,false)] (.stir [])) (by kernel_rfl) (by kernel_rfl) (fun c a d v w h=>by cases d<;>exact h) ?_
   generalize V3.drew=V4 at*
   iterate 5
    refine A0b fun K hK=>tkF ?_
    go_simp
    try go_bits
    refine hK _ _ ?_;clear hK K
   refine A0b fun K hK=>alF ?_
   go_step;refine(C0y V4 B g (sj.need pb 8) nn HC3.out.hs).mono ?_;rintro e V5 ⟨rfl,hs5,hk5⟩;have HC5:=hzz (HC3.out.call hs5 hk5);clear hs5 hk5 HC3 hSw;have hSw:D7u gx X V5:=HC5.out.hx
   go_simp
   first|refine⟨hSw,hK _ _ ?_⟩|refine hK _ _ ?_
   clear hK K;have yf:=A0n HC5.out.hy 2;have yl:=A0r HC5.out.hy;have yc:=A0a HC5.out.hy 2 rfl;dsimp only[RW.cells]at yc
   iterate 1
    refine A0b fun K hK=>tkF ?_
    go_simp
    try go_bits
    refine hK _ _ ?_;clear hK K
   refine A0b fun K hK=>alF ?_
   go_step
   have HC6:=hzz (show CdJ w (V5.setCell ⟨gx+1,2,none⟩ (.int .i64 (A2y nn))) B g w.heap.size (w.heap.size+1) gx (gx+1) (A3g (s.raws 0 l).2 j) (A1g l j) X ⟨(p:Nat),op,A2y nn,0⟩ _ from HC5.out.put (by omega) (by omega) (by omega) (by omega) (by omega) 2 (.int .i64 (A2y nn)) rfl)
   clear hSw yf yl yc HC5;have hSw:D7u gx X (V5.setCell ⟨gx+1,2,none⟩ (.int .i64 (A2y nn))):=HC6.out.hx
   first|refine⟨hSw,hK _ _ ?_⟩|refine hK _ _ ?_
   clear hK K;generalize V5.setCell ⟨gx+1,2,none⟩ (.int .i64 (A2y nn))=V6 at*;have yf:=A0n HC6.out.hy 3;have yl:=A0r HC6.out.hy;have yc:=A0a HC6.out.hy 3 rfl
   dsimp only[RW.cells]at yc
   iterate 1
    refine A0b fun K hK=>tkF ?_
    go_simp
    try go_bits
    refine hK _ _ ?_;clear hK K
   refine A0b fun K hK=>alF ?_
   go_step
   have HC7:=hzz (show CdJ w (V6.setCell ⟨gx+1,3,none⟩ (.int .i64 mm)) B g w.heap.size (w.heap.size+1) gx (gx+1) (A3g (s.raws 0 l).2 j) (A1g l j) X ⟨(p:Nat),op,A2y nn,mm⟩ _ from HC6.out.put (by omega) (by omega) (by omega) (by omega) (by omega) 3 (.int .i64 mm) rfl)
   clear hSw yf yl yc HC6;have hSw:D7u gx X (V6.setCell ⟨gx+1,3,none⟩ (.int .i64 mm)):=HC7.out.hx
   first|refine⟨hSw,hK _ _ ?_⟩|refine hK _ _ ?_
   clear hK K;generalize V6.setCell ⟨gx+1,3,none⟩ (.int .i64 mm)=V7 at*;refine A0m (fun y=>y=V7) (fun y hy=>hy▸hSw) rfl ?_;refine A0p (fun y hy=> ?_);replace hy:=hy.symm;subst hy
   clear hSw l1 l2
   go_wp2_with fail
   go_meet;exact hzz (by rw[HRA.out];exact HC7.out)
  have HC:=hcut;clear hcut HCK;obtain⟨RS,RP⟩:=RR;dsimp only at HC HTK HAT;have HCL:=hzz HC.out.hy;obtain⟨rp,ro,ra,rb⟩:=RP;have y0:=A0a HC.out.hy 0 rfl;have y1:=A0a HC.out.hy 1 rfl
  have y2:=A0a HC.out.hy 2 rfl;have y3:=A0a HC.out.hy 3 rfl;dsimp only[RW.cells]at y0 y1 y2 y3
  have HRL:=hzz (show(((A3g (s.raws 0 l).2 j).flatMap RW.cells).toArray).size=n*4 by rw[List.size_toArray,A4y RW.cells_length,B5p,A9u,HLn.out])
  obtain⟨CR,hCR⟩:∃CR,CR=((A3g (s.raws 0 l).2 j).flatMap RW.cells).toArray:=⟨_,rfl⟩;have HCR:=hzz hCR
  have HRR2:=hzz (show wc.heap[w.heap.size]? =some (.cells CR B2y (0,0)) by rw[hCR];exact HC.out.hr);rw[<-hCR]at HRL;clear hCR;have hq:j*4+4<=n*4:=by omega
  go_upto_region 18 with fail
  go_wp2_with (first
   |(refine B1x rfl _ _ _ rfl w.heap.size (j*4) #[.int .i64 rp,.int .u8 (ro:Nat),.int .i64 ra,.int .i64 rb] rfl rfl CR _ HRR2.out (by rw[HRL.out];exact hq) C3y (B8k ⟨rp,ro,ra,rb⟩) ?_))
  generalize hVV:wc.setRow w.heap.size _=V9;have hV:=HC.out.hr.setR j (by rw[B5p,A9u,HLn.out];exact hlt) ⟨rp,ro,ra,rb⟩;rw[<-HCR.out,C6p _ _ _ HAT.out]at hV
  have HR2:=hzz (show A5g V9 w.heap.size (A3g (s.raws 0 l).2 (j+1)) by rw[<-hVV];exact hV);have HS2:=hzz (show LoS V9 B g RS by rw[<-hVV];exact HC.out.hs.setR HC.out.hr (by decide) (by decide) hw0 _)
  have HK2:=hzz (show A0u B w V9 by rw[<-hVV];exact HC.out.hk.thenB (below_setRow nlz _))
  have HA2:=hzz (show A6g V9 (w.heap.size+1) (A1g l j) by rw[<-hVV];exact(setRow_other wc w.heap.size (w.heap.size+1) _ (by omega)).trans HC.out.ha)
  have HX2:=hzz (show A3j gx X V9 by rw[<-hVV];exact(setRow_other wc w.heap.size gx _ (by omega)).trans HC.out.hx);clear hV hVV HRR2 HRL HCR HC HCL y0 y1 y2 y3 hq
  have HLE:=hzz (fun W=>D2v W op (by have h:=HFX.out.op;rw[HXX.out]at h;exact h));obtain⟨ln,hln⟩:=exz (A0w (A0g op));rw[<-hln]at HLE
  have HLN:=hzz (show A7w X=ln by rw[HXX.out,hln];rfl);have hlb:ln<=3:=by rw[<-HLN.out];exact C7v X
  clear hln
  go_upto_region 19 with fail
  have hj2:(j:Int)<n+1:=by omega
  have hj3:(j:Int)+1<n+1:=by omega
  have hj4:(0:Int)<=(j:Int)+1:=by omega
  have l0:∀z,B0e V9 z->z.cell? ⟨w.heap.size+1,j,none⟩=some (.int .i64 (p:Nat)):=fun z h=>A0c h (HA2.out.cell (by rw[HP.out];exact A8g l j j nlz (by rw[HLn.out];exact hj)))
  have l1:∀z,B0e V9 z->z.cell? ⟨gx,0,none⟩=some (.int .u8 (op:Nat)):=fun z h=>A0c h (by have h:=HX2.out.box.c0;rw[HXX.out]at h;exact h)
  have hSw:B0e V9 V9.drew:=brz.drew
  refine A0t (B0e V9) 12 [(0,true),(1,true),(2,true),(3,true),(4,true),(5,true),(6,true),(7,true),(8,true),(9,false),(10,true),(11,true)] (by kernel_rfl) (by kernel_rfl) (fun c a d v w h=>by cases d<;>exact h) ?_
  iterate 9
   refine A0d fun K hK=>tkF ?_
   go_simp
   try go_bits
   refine hK _ _ ?_;clear hK K
  refine A0d fun K hK=>alF ?_
  go_step;refine(HLE.out _).mono ?_;rintro e V10 ⟨rfl,hb10⟩;have hSx:B0e V9 V10:=hSw.trans (hb10.mono hSw.size);clear hb10 hSw HLE;have hSw:=hSx;clear hSx;go_simp
  first|refine⟨hSw,hK _ _ ?_⟩|refine hK _ _ ?_
  clear hK K
  iterate 2
   refine A0d fun K hK=>tkF ?_
   go_simp
   try go_bits
   refine hK _ _ ?_;clear hK K
  have HA3:=hzz (HA2.out.below hSw);have fo:=A0n HA3.out (j+1);have lto:=A0r HA3.out
  have co:V10.cell? ⟨w.heap.size+1,j+1,none⟩=some (.int .i64 ((A1g l j).getD (j+1) 0)):=HA3.out.cell (by
   rw[List.getD_eq_getElem?_getD,List.getElem?_eq_getElem (by rw[B9u,HLn.out];omega)];rfl)
  refine A1u (laF ?_);go_step
  have HA4:=hzz (show A6g (V10.setCell ⟨w.heap.size+1,j+1,none⟩ (.int .i64 ((p:Int)+ln))) (w.heap.size+1) (A1g l (j+1))from by
   rw[<-B9b l j (by rw[HLn.out];exact hlt),HPS.out,HLN.out];exact HA3.out.set (j+1) _)
  have HR4:=hzz (show A5g (V10.setCell ⟨w.heap.size+1,j+1,none⟩ (.int .i64 ((p:Int)+ln))) w.heap.size (A3g (s.raws 0 l).2 (j+1))from A1r (HR2.out.below hSw) (by omega) _ _)
  have HS4:=hzz ((HS2.out.below hSw).setO HA3.out (by decide) (by decide) (by omega) (j+1) (.int .i64 ((p:Int)+ln)))
  have HK4:=hzz (HK2.out.thenB ((hSw.mono HK2.out.size).trans (show Below w.heap.size V10 (V10.setCell ⟨w.heap.size+1,j+1,none⟩ (.int .i64 ((p:Int)+ln)))from brz.setCell (show w.heap.size<=w.heap.size+1 by omega) _)))
  clear hSw l0 l1 fo lto co HA3 HA2 HR2 HS2 HK2 HX2 hj2 hj3 hj4
  go_wp2_with fail
  go_roundg (n-(j+1))
  case measure=>omega
  exact⟨j+1,by omega,rfl,by go_num,hzz (by rw[HTK.out];exact HS4.out),HK4,HR4,HA4⟩
 obtain rfl:j=n:=by omega
 have hfull:l.take j=l:=List.take_of_length_le (by rw[HLn.out];exact Nat.le_refl _);rw[hfull]at HS;have HNR:=hzz (show(s.raws 0 l).2.length=j by rw[A9u];exact HLn.out)
 have HOK:=hzz (D6j s l hsz (by rw[HLn.out];exact hn) (fun x hx=>(HF.out x hx).op));have HAT:=hzz (C2t s l)
 have HFIN:=hzz (show s.code l=((((s.raws 0 l).1).goes l l).need (decide ((A1t (A8k l (s.raws 0 l).2)).1=0)) (A1t (A8k l (s.raws 0 l).2)).1,(A1t (A8k l (s.raws 0 l).2)).2)from rfl)
 have HRR:=hzz (show A5g wr w.heap.size (A5h l (s.raws 0 l).2 0) by
  have h:=HR.out;rw[<-HNR.out,C5w]at h;rw[C2u];exact h)
 have HAA:=hzz (show A6g wr (w.heap.size+1) (A1g l l.length) by rw[HLn.out];exact HA.out);clear hfull HR HA hlt hj;generalize s.raws 0 l=SR at*;obtain⟨s1,R⟩:=SR
 dsimp only at HS HNR HOK HAT HFIN HRR;obtain⟨W7,hW7⟩:=exz (wr);subst hW7
 go_wp2_with fail
 go_loopg [121] j (fun gn i wx=>∃k:Nat,k<=j/\gn=j-k/\i= .int .i64 k/\Hid (LoS wx B g (s1.goes l (l.take k)))/\Hid (A0u B w wx)/\Hid (A5g wx w.heap.size (A5h l R k))/\Hid (A6g wx (w.heap.size+1) (A1g l l.length)))
 case atStart=>exact⟨0,by omega,by omega,by go_num,HS,HK,HRR,HAA⟩
 clear HS HK HRR HAA;obtain⟨k,hk,rfl,rfl,HS,HK,HR,HA⟩:=hrel;by_cases hlt:k<j
 ·obtain⟨b,off,x,rfl,hbl,hx,q⟩:=(HK.out.ss HL.out HLB.out).getC k hlt;have q0:=q 0 (by omega);have q1:=q 1 (by omega);have q2:=q 2 (by omega);have q3:=q 3 (by omega);have q4:=q 4 (by omega)
  have q5:=q 5 (by omega);have q6:=q 6 (by omega);rw[Nat.add_zero]at q0;simp only[IN.cells,List.getElem?_cons_zero,List.getElem?_cons_succ]at q0 q1 q2 q3 q4 q5 q6;have hj1:(k:Int)<j:=by omega
  have HFX:=hzz (HF.out x (List.mem_of_getElem? hx));have hrx:=HAT.out k x hx;generalize((s.raws 0 (l.take k)).1.raw (A3q l k) x).2=rk at hrx
  have HSN:=hzz (show s1.goes l (l.take (k+1))=if A0g x.op=7 then(s1.goes l (l.take k)).need (inB l x.n) 2 else s1.goes l (l.take k) by
   have hjl:=(gsz hx).1;rw[List.take_succ_eq_append_getElem hjl,(gsz hx).2,C8y])
  have HST:=hzz (C2z l R k x rk hx hrx);have HSE:=hzz (B6d l R k x rk hx hrx);have HGA:=hzz (B8n l R k rk hrx)
  have HIB:=hzz (show inB l x.n=decide (0<=x.n/\x.n<j) by unfold inB;rw[HLn.out]);generalize s1.goes l (l.take k)=sk at*;have HFO:=hzz (fun W=>B1b W x.op HFX.out.op)
  obtain⟨f,hf⟩:=exz (A0g x.op);rw[<-hf]at HFO HSN
  have HBR:=hzz (show A2z l x rk=if f=7/\inB l x.n=true then{rk with a:=(A3q l x.n.toNat:Nat)}else rk by unfold A2z;rw[hf])
  obtain⟨op,nn,mm,cl,nm,ds,tx⟩:=x;dsimp only at q0 q1 q2 q3 q4 q5 q6 HFO HSN HBR HIB;clear q hx hrx hf
  go_upto_region 24 with fail
  have hal:=A0f wr (.cells #[.int .u8 (op:Nat),.int .i64 nn,.int .i64 mm,.string ⟨cl.toArray⟩,.string ⟨nm.toArray⟩,.string ⟨ds.toArray⟩,.string ⟨tx.toArray⟩] A2e)
  have HXB:=hzz (show A3j wr.heap.size ⟨op,nn,mm,cl,nm,ds,tx⟩ (wr.alloc (.cells #[.int .u8 (op:Nat),.int .i64 nn,.int .i64 mm,.string ⟨cl.toArray⟩,.string ⟨nm.toArray⟩,.string ⟨ds.toArray⟩,.string ⟨tx.toArray⟩] A2e))from heap_alloc_last wr _)
  have hws:w.heap.size+1<wr.heap.size:=A0r HA.out;have HS1:=hzz (HS.out.below hal);have HK1:=hzz (HK.out.trans (A0u.of hal));have HR1:=hzz (HR.out.below hal);have HA1:=hzz (HA.out.below hal)
  clear hal q0 q1 q2 q3 q4 q5 q6 HS HK HR HA hbl;generalize wr.alloc _=W at*;generalize wr.heap.size=gx at*;obtain⟨j0,j1,j2,j3,j4,j5,j6,-,-,-,-,-,-⟩:=HXB.out.box
  dsimp only at j0 j1 j2 j3 j4 j5 j6;by_cases f7:f=7
  ·have e7:((f:Int) !=7)=false:=by rw[f7];rfl
   rw[if_pos f7]at HSN;have HF7:=hzz f7;clear f7
   go_wp2_with fail
   refine(HFO.out W).mono ?_;rintro e W1 ⟨rfl,hb1⟩;have HS2:=hzz (HS1.out.below hb1);have HK2:=hzz (HK1.out.trans (A0u.of hb1));have HR2:=hzz (HR1.out.below hb1);have HA2:=hzz (HA1.out.below hb1)
   have HXC:=hzz (HXB.out.below hb1);clear hb1 HS1 HK1 HR1 HA1 HXB HFO j0 j1 j2 j3 j4 j5 j6;obtain⟨j0,j1,j2,j3,j4,j5,j6,-,-,-,-,-,-⟩:=HXC.out.box;dsimp only at j0 j1 j2 j3 j4 j5 j6
   have HNN:=hzz (fun bb=>A0v W1 B g sk bb 2 HS2.out);by_cases h0:0<=nn
   ·have d0:decide (0<=nn)=true:=decide_eq_true h0;by_cases h1:nn<j
    ·obtain⟨t,ht⟩:∃t:Nat,nn=(t:Int):=⟨nn.toNat,by omega⟩;subst ht;have d1:decide ((t:Int)<j)=true:=decide_eq_true h1
     have hib:inB l (t:Int)=true:=by rw[HIB.out];exact decide_eq_true ⟨h0,h1⟩
     rw[hib]at HSN HBR;have htj:t<j:=by omega
     have HBS:=hzz (show A2z l ⟨op,(t:Int),mm,cl,nm,ds,tx⟩ rk={rk with a:=(A3q l t:Nat)} by rw[HBR.out,if_pos ⟨HF7.out,rfl⟩,Int.toNat_natCast]);clear hib HBR HIB h0 h1
     go_wp2_with fail
     refine(HNN.out true).mono ?_;rintro e W2 ⟨rfl,hs2,hk2⟩;have HS3:=hzz hs2;have HK3:=hzz (HK2.out.trans hk2);have HR3:=hzz (HR2.out.keepL hk2);have HA3:=hzz (HA2.out.keepL hk2)
     have HXD:=hzz (HXC.out.keepL hk2);clear hs2 hk2 HS2 HK2 HR2 HA2 HXC HNN j0 j1 j2 j3 j4 j5 j6 d0 d1;obtain⟨j0,j1,j2,j3,j4,j5,j6,-,-,-,-,-,-⟩:=HXD.out.box
     dsimp only at j0 j1 j2 j3 j4 j5 j6
     have pt:W2.cell? ⟨w.heap.size+1,t,none⟩=some (.int .i64 (A3q l t:Nat)):=HA3.out.cell (A8g l l.length t (by rw[HLn.out];omega) (by rw[HLn.out];omega))
     have hkl:k<(A5h l R k).length:=by rw[C5c,HNR.out];exact hlt
     have pr:=HR3.out.cellA k hkl;have fr:=A0n HR3.out (k*4+2);have lr:=A0r HR3.out;have ht1:(t:Int)<j+1:=by omega
     go_wp2_with fail
     have HR4:=hzz (show A5g (W2.setCell ⟨w.heap.size,k*4+2,none⟩ (.int .i64 (A3q l t:Nat))) w.heap.size (A5h l R (k+1))from by
      have h:=HR3.out.setA k hkl (A3q l t:Nat);rw[(gsz HGA.out).2]at h;rw[<-HSE.out,HBS.out];exact h)
     have HA4:=hzz (show A6g (W2.setCell ⟨w.heap.size,k*4+2,none⟩ (.int .i64 (A3q l t:Nat))) (w.heap.size+1) (A1g l l.length)from A1r HA3.out (by omega) _ _)
     have HS4:=hzz (HS3.out.setO HR3.out (by decide) (by decide) hw0 (k*4+2) (.int .i64 (A3q l t:Nat)))
     have HK4:=hzz (HK3.out.thenB (show Below w.heap.size W2 (W2.setCell ⟨w.heap.size,k*4+2,none⟩ (.int .i64 (A3q l t:Nat)))from brz.setCell (Nat.le_refl w.heap.size) _))
     clear pt pr fr lr j0 j1 j2 j3 j4 j5 j6 HS3 HK3 HR3 HA3;go_roundg (j-(k+1))
     case measure=>omega
     exact⟨k+1,by omega,rfl,by go_num,hzz (by rw[HSN.out];exact HS4.out),HK4,HR4,HA4⟩
    have d1:decide (nn<(j:Int))=false:=decide_eq_false h1;have hib:inB l nn=false:=by rw[HIB.out];exact decide_eq_false (fun h=>h1 h.2)
    rw[hib]at HSN HBR
    have HBS:=hzz (HST.out (by rw[HBR.out,if_neg (fun h=>by cases h.2)]))
    clear hib HBR HIB h0 h1
    go_wp2_with fail
    refine(HNN.out false).mono ?_;rintro e W2 ⟨rfl,hs2,hk2⟩;have HS3:=hzz hs2;have HK3:=hzz (HK2.out.trans hk2);have HR3:=hzz (HR2.out.keepL hk2);have HA3:=hzz (HA2.out.keepL hk2)
    clear hs2 hk2 HS2 HK2 HR2 HA2 HXC HNN j0 j1 j2 j3 j4 j5 j6 d0 d1
    go_wp2_with fail
    go_roundg (j-(k+1))
    case measure=>omega
    exact⟨k+1,by omega,rfl,by go_num,hzz (by rw[HSN.out];exact HS3.out),HK3,hzz (by rw[HBS.out];exact HR3.out),HA3⟩
   have d0:decide (0<=nn)=false:=decide_eq_false h0;have hib:inB l nn=false:=by rw[HIB.out];exact decide_eq_false (fun h=>h0 h.1)
   rw[hib]at HSN HBR
   have HBS:=hzz (HST.out (by rw[HBR.out,if_neg (fun h=>by cases h.2)]))
   clear hib HBR HIB h0
   go_wp2_with fail
   refine(HNN.out false).mono ?_;rintro e W2 ⟨rfl,hs2,hk2⟩;have HS3:=hzz hs2;have HK3:=hzz (HK2.out.trans hk2);have HR3:=hzz (HR2.out.keepL hk2);have HA3:=hzz (HA2.out.keepL hk2)
   clear hs2 hk2 HS2 HK2 HR2 HA2 HXC HNN j0 j1 j2 j3 j4 j5 j6 d0
   go_wp2_with fail
   go_roundg (j-(k+1))
   case measure=>omega
   exact⟨k+1,by omega,rfl,by go_num,hzz (by rw[HSN.out];exact HS3.out),HK3,hzz (by rw[HBS.out];exact HR3.out),HA3⟩
  have e7:((f:Int) !=7)=true:=by
   have:¬(f:Int)=7:=by omega
   simp[this]
  rw[if_neg f7]at HSN;have HBS:=hzz (HST.out (by rw[HBR.out,if_neg (fun h=>f7 h.1)]));clear f7 HBR HIB
  go_wp2_with fail
  refine(HFO.out W).mono ?_;rintro e W1 ⟨rfl,hb1⟩;have HS2:=hzz (HS1.out.below hb1);have HK2:=hzz (HK1.out.trans (A0u.of hb1));have HR2:=hzz (HR1.out.below hb1);have HA2:=hzz (HA1.out.below hb1)
  clear hb1 HS1 HK1 HR1 HA1 HXB HFO j0 j1 j2 j3 j4 j5 j6
  go_wp2_with fail
  go_roundg (j-(k+1))
  case measure=>omega
  exact⟨k+1,by omega,rfl,by go_num,hzz (by rw[HSN.out];exact HS2.out),HK2,hzz (by rw[HBS.out];exact HR2.out),HA2⟩
 obtain rfl:k=j:=by omega
 have hfull:l.take k=l:=List.take_of_length_le (by rw[HLn.out];exact Nat.le_refl _);rw[hfull]at HS
 have HRB:=hzz (show A5g wr w.heap.size (A8k l R) by
  have h:=HR.out;rw[<-HNR.out,C6i l R (by rw[HNR.out,HLn.out])]at h;exact h)
 clear hlt HR hfull hk
 have HEN:=hzz (show Calls Tryz.prog 123 #[.slice (some ⟨w.heap.size,0,none⟩) k k] wr (A5z (A1t (A8k l R)) wr)from C2a wr _ k k (A8k l R) (by
  have h:=HRB.out.ss;rw[show(A8k l R).length=k by unfold A8k;rw[List.length_map,List.length_zip,HNR.out,HLn.out,Nat.min_self]]at h;exact h) (by omega) HOK.out)
 generalize A1t (A8k l R)=ER at*;obtain⟨er,bs⟩:=ER;dsimp only at HFIN
 go_wp2_with fail
 refine HEN.out.mono ?_;rintro e W1 ⟨ba,bn,bc,rfl,hsl,hle,hb1,hoo⟩;have HNL:=hzz (A0v W1 B g (s1.goes l l) (decide (er=0)) er (HS.out.below hb1));have HOO:=hzz hoo;have HSL:=hzz hsl
 have HLE:=hzz hle;have HK1:=hzz (HK.out.trans (A0u.of hb1));have HA1:=hzz (HA.out.below hb1);obtain⟨be,hbe⟩:=exz (decide (er=0))
 have he0:(er==0)=be:=by rw[hbe,Bool.eq_iff_iff,beq_iff_eq,decide_eq_true_iff]
 rw[<-hbe]at HNL HFIN;have hwx:w.heap.size<=wr.heap.size:=HK.out.size;clear hoo hsl hle hb1 HK HA HS HEN hbe HRB
 go_wp2_with fail
 refine HNL.out.mono ?_;rintro e W2 ⟨rfl,hs2,hk2⟩
 go_wp2_with fail
 go_ret2;rw[B7d,HFIN.out];exact⟨ba,bn,bc,w.heap.size+1,rfl,(HOO.out.keepL hk2).mono hwx,HOO.out.slK hk2 HSL.out,HLE.out,HA1.out.keepL hk2,by omega,hs2,HK1.out.trans hk2⟩
theorem B0f(w:World)(st:Bool):Calls Tryz.prog 34 #[.bool st] w fun e w'=>e= .returned (.int .i64 (A1w st))/\w'=w:=by
 cases st
 ·go_enter Tryz.func34,Tryz.ntmps34
  go_wp2_with fail
  go_ret;exact⟨rfl,rfl⟩
 go_enter Tryz.func34,Tryz.ntmps34
 go_wp2_with fail
 go_ret;exact⟨rfl,rfl⟩
abbrev PLT:=89
theorem A8d(W:World)(B g gk ga gat:Nat)(s:LW)(l:List IN)(n most:Int)(hs:LoS W B g s)(hk:W.heap[gk]? =some (.cells #[.pointer (some ⟨g,0,none⟩)] PLT (0,0)))
  (ha:W.heap[ga]? =some (.cells #[.slice (some ⟨gat,0,none⟩) (l.length+1) (l.length+1)] 138 (0,0))) (hr:A6g W gat (A1g l l.length)) (hl:l.length<=4096) (hm:most<=l.length):
  Calls Tryz.prog 74 #[.int .i64 n,.int .i64 most,.pointer (some ⟨gk,0,none⟩),.pointer (some ⟨ga,0,none⟩)] W (B1y (.int .i64 (s.place l n most).2) B g (s.place l n most).1 W):=by
 have HN:=hzz (A0v W B g s false 2 hs);have HS:=hzz hs;have HR:=hzz hr;have k0:=A0a hk 0 rfl;have a0:=A0a ha 0 rfl;obtain⟨R,hR⟩:=exz (s.place l n most);rw[<-hR]
 unfold LW.place at hR;clear hs hr hk ha;by_cases h0:n<0
 ·have d0:decide (n<0)=true:=decide_eq_true h0;have HRR:=hzz (hR.trans (if_pos (.inl h0)));clear hR h0;go_enter Tryz.func74,Tryz.ntmps74
  go_wp2_with fail
  refine HN.out.mono ?_;rintro e w1 ⟨rfl,h1,h2⟩
  go_wp2_with fail
  go_ret;rw[HRR.out];exact⟨rfl,h1,h2⟩
 have d0:decide (n<0)=false:=decide_eq_false h0;by_cases h1:most<n
 ·have d1:decide (most<n)=true:=decide_eq_true h1;have HRR:=hzz (hR.trans (if_pos (.inr h1)));clear hR h0 h1;go_enter Tryz.func74,Tryz.ntmps74
  go_wp2_with fail
  refine HN.out.mono ?_;rintro e w1 ⟨rfl,h1,h2⟩
  go_wp2_with fail
  go_ret;rw[HRR.out];exact⟨rfl,h1,h2⟩
 have d1:decide (most<n)=false:=decide_eq_false h1
 have HRR:=hzz (hR.trans (if_neg (fun h=>by rcases h with h|h;exact h0 h;exact h1 h)))
 obtain⟨t,ht⟩:∃t:Nat,n=(t:Int):=⟨n.toNat,by omega⟩;subst ht;have hta:(t:Int)<l.length+1:=by omega
 have pt:W.cell? ⟨gat,t,none⟩=some (.int .i64 (A3q l t:Nat)):=HR.out.cell (A8g l l.length t (by omega) (by omega));rw[Int.toNat_natCast]at HRR;generalize A3q l t=q at*;clear hR h0 h1
 go_enter Tryz.func74,Tryz.ntmps74
 go_wp2_with fail
 go_ret;rw[HRR.out];exact⟨rfl,HS.out,A0u.refl _ _⟩
abbrev FMT:=65
abbrev TrT:=123
abbrev MpT:=68
abbrev SlT:=174
def KP.lp(p:KP):KP:=⟨p.pl,none,0,0,p.loc,none,0,0,p.stk⟩
def KM.lp(m:KM):KM:=⟨m.fl,m.nm,m.ds,m.st,m.lo,none,0,0,m.code,none,0,0,m.traps,none,0,0,m.maps.map KP.lp⟩
structure KP.Ow(p:KP)(w:World)(B:Nat):Prop where
 loc:w.ownsRow B SlT 2 (.slice p.la p.ln p.lc) p.ln (p.loc.flatMap KS.cells)
 stk:w.ownsRow B SlT 2 (.slice p.sa p.sn p.sc) p.sn (p.stk.flatMap KS.cells)
theorem KP.Ow.keepL{p:KP}{B B':Nat}{w w':World}(h:p.Ow w B')(k:A0u B w w'):p.Ow w' B':=⟨A0u.own h.loc k (by decide) (by decide),A0u.own h.stk k (by decide) (by decide)⟩
theorem KP.Ow.keptT{p:KP}{B':Nat}{w w':World}{e:TypeId}(h:p.Ow w B')(k:A2p e w w')(h1:SlT≠e):p.Ow w' B':=⟨A0k h.loc k h1,A0k h.stk k h1⟩
theorem KP.Ow.mono{p:KP}{B B':Nat}{w:World}(h:p.Ow w B)(hB:B'<=B):p.Ow w B':=⟨A1y h.loc hB,A1y h.stk hB⟩
theorem KP.Ow.rd{p:KP}{w:World}{B:Nat}(h:p.Ow w B):p.Rd w:=by
 obtain⟨a,c,e,hs,_⟩:=Ss.ofOwn KS.cells_length (by decide) h.loc;obtain⟨a',c',e',hs',_⟩:=Ss.ofOwn KS.cells_length (by decide) h.stk
 cases e
 cases e'
 exact⟨hs,hs'⟩
theorem A3c.keptT{w w':World}{B:Nat}{e:TypeId}{v:Value}{m:Nat}{bs:List UInt8}(h:A3c w B v m bs)(hk:A2p e w w')(hne:5≠e):A3c w' B v m bs:=by
 rcases h with h|⟨g,C,rfl,hc,h⟩
 ·exact .inl (A0k h hk hne)
 have hc':=hk.2 _ _ _ _ hc hne;refine .inr ⟨g,C,rfl,hc',h.1,fun hn=> ?_⟩;obtain⟨b,off,ha,hlt,hcell⟩:=h.2 hn;simp only[Option.some.injEq,Addr.mk.injEq]at ha;obtain⟨rfl,rfl,_⟩:=ha
 refine⟨g,0,rfl,Nat.lt_of_lt_of_le hlt hk.1,fun i hi=> ?_⟩;rw[<-hcell i hi];unfold World.cell?;rw[hc,hc']
structure KM.Ow(m:KM)(w:World)(B:Nat):Prop where
 code:A3c w B (.slice m.ca m.cn m.cc) m.cn m.code
 traps:w.ownsRow B TrT 4 (.slice m.ta m.tn m.tc) m.tn (m.traps.flatMap KT.cells)
 maps:w.ownsRow B MpT 3 (.slice m.ma m.mn m.mc) m.mn (m.maps.flatMap KP.cells)
 each:∀p∈m.maps,p.Ow w B
theorem KM.Ow.keepL{m:KM}{B B':Nat}{w w':World}(h:m.Ow w B')(k:A0u B w w'):m.Ow w' B':=⟨h.code.keepL k,A0u.own h.traps k (by decide) (by decide),A0u.own h.maps k (by decide) (by decide),fun p hp=>(h.each p hp).keepL k⟩
theorem KM.Ow.keptT{m:KM}{B':Nat}{w w':World}{e:TypeId}(h:m.Ow w B')(k:A2p e w w')(h1:5≠e)(h2:TrT≠e)(h3:MpT≠e)(h4:SlT≠e):m.Ow w' B':=⟨h.code.keptT k h1,A0k h.traps k h2,A0k h.maps k h3,fun p hp=>(h.each p hp).keptT k h4⟩
theorem KM.Ow.mono{m:KM}{B B':Nat}{w:World}(h:m.Ow w B)(hB:B'<=B):m.Ow w B':=⟨h.code.mono hB,A1y h.traps hB,A1y h.maps hB,fun p hp=>(h.each p hp).mono hB⟩
theorem KM.Ow.rd{m:KM}{w:World}{B:Nat}(h:m.Ow w B):m.Rd w:=by
 obtain⟨a,c,e,hs,hc⟩:=h.code.sl;obtain⟨a',c',e',hs',_⟩:=Ss.ofOwn KT.cells_length (by decide) h.traps;obtain⟨a'',c'',e'',hs'',_⟩:=Ss.ofOwn KP.cells_length (by decide) h.maps
 cases e
 cases e'
 cases e''
 exact⟨hs,hc,hs',hs'',fun p hp=>(h.each p hp).rd⟩
theorem KM.Ow.traps1{x:KM}{w w':World}{B:Nat}(h:x.Ow w B)(k:A2p TrT w w'){a:Option Addr}{n c:Nat}{t:KT}(ho:w'.ownsRow B TrT 4 (.slice a n c) n ((x.traps++[t]).flatMap KT.cells)):KM.Ow {x with ta:=a,tn:=n,tc:=c,traps:=x.traps++[t]} w' B:=
 ⟨h.code.keptT k (by decide),ho,A0k h.maps k (by decide),fun p hp=>(h.each p hp).keptT k (by decide)⟩
theorem KM.Ow.maps1{x:KM}{w w':World}{B:Nat}(h:x.Ow w B)(k:A2p MpT w w'){a:Option Addr}{n c:Nat}{p:KP}(hp:p.Ow w' B)(ho:w'.ownsRow B MpT 3 (.slice a n c) n ((x.maps++[p]).flatMap KP.cells)):KM.Ow {x with ma:=a,mn:=n,mc:=c,maps:=x.maps++[p]} w' B:=
 ⟨h.code.keptT k (by decide),A0k h.traps k (by decide),ho,fun q hq=>by
  rcases List.mem_append.1 hq with hq|hq
  ·exact(h.each q hq).keptT k (by decide)
  rw[List.mem_singleton.1 hq];exact hp⟩
theorem KM.Ow.code1{x:KM}{w:World}{B:Nat}(h:x.Ow w B){a:Option Addr}{n c:Nat}{bs:List UInt8}(ho:A3c w B (.slice a n c) n bs):KM.Ow {x with ca:=a,cn:=n,cc:=c,code:=bs} w B:=⟨ho,h.traps,h.maps,h.each⟩
structure MtH(w V:World)(B g gk gm gz:Nat)(m:UM)(s:LW):Prop where
 hs:LoS V B g s
 hk:A0u B w V
 k:V.heap[gk]? =some (.cells #[.pointer (some ⟨g,0,none⟩)] PLT (0,0))
 m:V.heap[gm]? =some (.cells m.cells.toArray A1d (0,0))
 z:V.heap[gz]? =some (.cells #[.int .i64 0,.int .i64 0,.int .i64 0,.int .i64 0,.int .i64 0,.slice none 0 0,.slice none 0 0,.slice none 0 0] FMT (0,0))
theorem MtH.call{w V V':World}{B g gk gm gz:Nat}{m:UM}{s s':LW}(h:MtH w V B g gk gm gz m s)(hs:LoS V' B g s')(hk:A0u B V V'):MtH w V' B g gk gm gz m s':=
 ⟨hs,h.hk.trans hk,hk.row h.k (by decide) (by decide),hk.row h.m (by decide) (by decide),hk.row h.z (by decide) (by decide)⟩
theorem MtH.below{w V V':World}{B g gk gm gz:Nat}{m:UM}{s:LW}(h:MtH w V B g gk gm gz m s)(hb:Below V.heap.size V V'):MtH w V' B g gk gm gz m s:=h.call (h.hs.below hb) (A0u.of hb)
structure MtJ(w V:World)(B g gk gm gz go:Nat)(m:UM)(x:KM)(s:LW):Prop where
 h:MtH w V B g gk gm gz m s
 o:V.heap[go]? =some (.cells x.cells.toArray FMT (0,0))
 w:x.Ow V w.heap.size
theorem MtJ.call{w V V':World}{B g gk gm gz go:Nat}{m:UM}{x:KM}{s s':LW}(h:MtJ w V B g gk gm gz go m x s)(hs:LoS V' B g s')(hk:A0u B V V'):MtJ w V' B g gk gm gz go m x s':=
 ⟨h.h.call hs hk,hk.row h.o (by decide) (by decide),h.w.keepL hk⟩
theorem MtJ.below{w V V':World}{B g gk gm gz go:Nat}{m:UM}{x:KM}{s:LW}(h:MtJ w V B g gk gm gz go m x s)(hb:Below V.heap.size V V'):MtJ w V' B g gk gm gz go m x s:=h.call (h.h.hs.below hb) (A0u.of hb)
theorem MtJ.put{w V:World}{B g gk gm gz go:Nat}{m:UM}{x x':KM}{s:LW}(h:MtJ w V B g gk gm gz go m x s)(hw:w.heap.size<=go)(h0:0<go)(hne:gz≠go)(o:Nat)(v:Value)(he:x.cells.toArray.setIfInBounds o v=x'.cells.toArray)(hx:x'.Ow V w.heap.size):
  MtJ w (V.setCell ⟨go,o,none⟩ v) B g gk gm gz go m x' s:=by
 have hkt:=A1p h.o o v
 exact⟨⟨h.h.hs.setO h.o (by decide) (by decide) h0 o v,h.h.hk.thenB (brz.setCell hw v),hkt.2 _ _ _ _ h.h.k (by decide),hkt.2 _ _ _ _ h.h.m (by decide),A1r h.h.z hne o v⟩,
  by rw[<-he];exact A1k h.o o v,hx.keptT hkt (by decide) (by decide) (by decide) (by decide)⟩
theorem MtJ.app{w V w9:World}{B g gk gm gz go:Nat}{m:UM}{x:KM}{s:LW}{ob:Obj}{e:TypeId}{size:Nat}{v:Value}{n:Nat}{xs:List Value}(h:MtJ w V B g gk gm gz go m x s)(hw0:0<w.heap.size)
  (ho:V.ownsRow w.heap.size e size v n xs) (hg:(V.alloc ob).grownBy w9 v.ownBlock) (hb:Below w.heap.size V w9) (h1:e≠A6e) (h2:e≠B3f) (h3:PLT≠e) (h4:A1d≠e) (h5:FMT≠e):
  MtH w w9 B g gk gm gz m s/\w9.heap[go]? =some (.cells x.cells.toArray FMT (0,0)):=by
 have hkt:=A2p.app ho hg;exact⟨⟨h.h.hs.app ho hg h1 h2 hw0,h.h.hk.thenB hb,hkt.2 _ _ _ _ h.h.k h3,hkt.2 _ _ _ _ h.h.m h4,hkt.2 _ _ _ _ h.h.z h5⟩,hkt.2 _ _ _ _ h.o h5⟩
theorem Ss.lowA{α:Type}{z:Nat}{enc:α->List Value}{w:World}{a:Option Addr}{n:Nat}{xs:List α}(h:Ss z enc w a n xs){B:Nat}(hB:w.heap.size<=B):D5c B a n:=by
 intro hn b off e;obtain⟨b',off',e',hlt,_⟩:=h.2 hn;rw[e]at e'
 cases e'
 omega
theorem Sl.lowA{α:Type}{enc:α->Value}{w:World}{a:Option Addr}{n:Nat}{xs:List α}(h:Sl enc w a n xs){B:Nat}(hB:w.heap.size<=B):D5c B a n:=by
 intro hn b off e;obtain⟨b',off',e',hlt,_⟩:=h.2 hn;rw[e]at e'
 cases e'
 omega
structure UP.Fit(p:UP):Prop where
 loc:p.loc.length<=1024
 stk:p.stk.length<=1024
 lt:∀t∈p.loc,t.length<=65536
 st:∀t∈p.stk,t.length<=65536
structure UM.Fit(m:UM):Prop where
 nm:m.nm.length<=65536
 ds:m.ds.length<=65536
 code:m.code.length<=4096
 ins:∀x∈m.code,B2w x
 traps:m.traps.length<=1024
 tr:∀t∈m.traps,t.cl.length<=65536
 maps:m.maps.length<=1024
 mp:∀p∈m.maps,p.Fit
theorem C7d:StE 62 TrT (.agg #[.int .i64 0,.int .i64 0,.int .i64 0,.int .i64 0]) 4 32:=⟨by kernel_rfl,by kernel_rfl,rfl⟩
theorem D5f:StE 63 MpT (.agg #[.int .i64 0,.slice none 0 0,.slice none 0 0]) 3 56:=⟨by kernel_rfl,by kernel_rfl,rfl⟩
theorem B4r:(Tryz.prog.info? FMT).map (·.size)=some 8:=by kernel_rfl
theorem C3u:(Tryz.prog.info? TrT).map (·.size)=some 4:=by kernel_rfl
theorem C7g(x:KM):x.cells.toArray.all (·.oneCell')=true:=by simp[KM.cells,Value.oneCell']
theorem D2a(x:KT):x.cells.toArray.all (·.oneCell')=true:=by simp[KT.cells,Value.oneCell']
theorem C6u(s:LW)(c:List IN)(l:List UT)(t:UT):s.traps c (l++[t])=((((s.traps c l).1).trap c t).1,(s.traps c l).2++[(((s.traps c l).1).trap c t).2]):=by
 induction l generalizing s with
 |nil=>rfl
 |cons x l ih=>
  rw[List.cons_append,LW.traps,LW.traps,ih];rfl
theorem D0m(s:LW)(c:List IN)(l:List UP)(t:UP):s.maps c (l++[t])=((((s.maps c l).1).map c t).1,(s.maps c l).2++[(((s.maps c l).1).map c t).2]):=by
 induction l generalizing s with
 |nil=>rfl
 |cons x l ih=>
  rw[List.cons_append,LW.maps,LW.maps,ih];rfl
theorem B4m(s:LW)(l:List IN)(n most:Int):(s.place l n most).1.l=s.l:=by
 unfold LW.place;split<;>rfl
theorem D2h(s:LW)(l:List IN)(t:UT):(s.trap l t).1.l.length<=s.l.length+4:=by
 unfold LW.trap;dsimp only;split
 ·simp only[B4m];omega
 have h:=A7h ((((s.place l t.fr (l.length-1)).1).place l t.tt l.length).1.place l t.pl (l.length-1)).1 t.cl false;simp only[B4m]at h;exact h
theorem B3z(s:LW)(c:List IN)(l:List UT):(s.traps c l).1.l.length<=s.l.length+4*l.length:=by
 induction l generalizing s with
 |nil=>exact Nat.le_refl _
 |cons x l ih=>
  rw[LW.traps];have h1:=D2h s c x;have h2:=ih (s.trap c x).1;simp only[List.length_cons];omega
theorem D8a(s:LW)(l:List IN)(t:UP):(s.map l t).1.l.length<=s.l.length+4*(t.loc.length+t.stk.length):=by
 unfold LW.map;dsimp only;have h1:=B0u (s.place l t.pl (l.length-1)).1 t.loc;have h2:=B0u ((s.place l t.pl (l.length-1)).1.slots t.loc).1 t.stk;simp only[B4m]at h1;omega
theorem C4r(s:LW)(c:List IN)(l:List UP)(h:∀p∈l,p.Fit):(s.maps c l).1.l.length<=s.l.length+8192*l.length:=by
 induction l generalizing s with
 |nil=>exact Nat.le_refl _
 |cons x l ih=>
  rw[LW.maps];have h1:=D8a s c x;have h2:=ih (s.map c x).1 (fun p hp=>h p (List.mem_cons_of_mem _ hp));have h3:=h x List.mem_cons_self;have h4:=h3.loc;have h5:=h3.stk
  simp only[List.length_cons];omega
theorem C4m(s:LW)(l:List IN):(s.code l).1.l.length<=s.l.length+12*l.length:=by
 unfold LW.code;dsimp only;have h:=B7c s 0 l;show((s.raws 0 l).1.goes l l).l.length<=_;rw[E0f];exact h
end
end Go.Proofs.YtclpkipaehpkdaaGreatDoor
