/- asm: own texts, merged (wip/merge3.py). No condition. -/
import Derived.Test.YtclpkipaehpkdaaGreatDoorQ28AsmLifts
import Derived.Test.YtclpkipaehpkdaaGreatDoorQ01AsmLifts
set_option linter.unusedVariables false
set_option linter.unusedSimpArgs false
set_option maxRecDepth 100000
set_option maxHeartbeats 64000000
namespace Go.Proofs.YtclpkipaehpkdaaGreatDoor
section
open Go.ChangeShapes Go.WideShapes Go.ChangeAt Go.RowKit Go.Maps
def B7p(B g:Nat)(s:LW)(l:List IN)(n:Nat)(w:World)(e:Ending)(w':World):Prop:=
 ∃ba bn bc ga,e= .returned (.tuple #[.slice ba bn bc,.slice (some ⟨ga,0,none⟩) (n+1) (n+1)])∧A3z w' w.heap.size (.slice ba bn bc) bn (s.code l).2∧Sl A5f w' ba bn (s.code l).2∧bn≤bc∧A6n w' ga (A1r l l.length)∧w.heap.size≤ga∧LoS w' B g (s.code l).1∧A0x B w w'
structure CdJ(w V:World)(B g gr ga gx gy:Nat)(R:List RW)(P:List Int)(x:IN)(r:RW)(s:LW):Prop where
 hs:LoS V B g s
 hk:A0x B w V
 hr:A5u V gr R
 ha:A6n V ga P
 hx:A3w gx x V
 hy:V.heap[gy]? =some (.cells r.cells.toArray B3s (0,0))
theorem CdJ.call{w V V':World}{B g gr ga gx gy:Nat}{R:List RW}{P:List Int}{x:IN}{r:RW}{s s':LW}(h:CdJ w V B g gr ga gx gy R P x r s)(hs:LoS V' B g s')(hk:A0x B V V'):CdJ w V' B g gr ga gx gy R P x r s':=
 ⟨hs,h.hk.trans hk,h.hr.keepL hk,h.ha.keepL hk,h.hx.keepL hk,hk.row h.hy (by decide) (by decide)⟩
theorem CdJ.below{w V V':World}{B g gr ga gx gy:Nat}{R:List RW}{P:List Int}{x:IN}{r:RW}{s:LW}(h:CdJ w V B g gr ga gx gy R P x r s)(hb:Below V.heap.size V V'):CdJ w V' B g gr ga gx gy R P x r s:=
 h.call (h.hs.below hb) (A0x.of hb)
theorem CdJ.put{w V:World}{B g gr ga gx gy:Nat}{R:List RW}{P:List Int}{x:IN}{r r':RW}{s:LW}(h:CdJ w V B g gr ga gx gy R P x r s)(hw:w.heap.size≤gy)(h0:0<w.heap.size)(h1:gr≠gy)(h2:ga≠gy)(h3:gx≠gy)(o:Nat)(v:Value)(he:r.cells.toArray.setIfInBounds o v=r'.cells.toArray):CdJ w (V.setCell ⟨gy,o,none⟩ v) B g gr ga gx gy R P x r' s:=
 ⟨h.hs.setO h.hy (by decide) (by decide) (by omega) o v,h.hk.thenB ((Below.refl _ _).setCell hw v),A1c h.hr h1 o v,A1c h.ha h2 o v,A1c h.hx h3 o v,by rw[←he];exact A1d h.hy o v⟩
theorem C4s:(Tryz.prog.info? B3s).map (·.size)=some 4:=by kernel_rfl
theorem A3z.keepL{B:Nat}{w w':World}{B':Nat}{v:Value}{m:Nat}{bs:List UInt8}(h:A3z w B' v m bs)(hk:A0x B w w'):A3z w' B' v m bs:=by
 rcases h with h|⟨g,C,rfl,hg,h⟩
 ·exact .inl (A0x.own h hk (by decide) (by decide))
 ·have hg':=hk.row hg (by decide) (by decide);refine .inr ⟨g,C,rfl,hg',h.1,fun hn=> ?_⟩;obtain⟨b,off,ha,hlt,hc⟩:=h.2 hn;simp only[Option.some.injEq,Addr.mk.injEq]at ha
  obtain⟨rfl,rfl,_⟩:=ha;refine⟨g,0,rfl,Nat.lt_of_lt_of_le hlt hk.size,fun i hi=> ?_⟩;rw[←hc i hi];unfold World.cell?;rw[hg,hg']
theorem A3z.mono{w:World}{B B':Nat}{v:Value}{m:Nat}{bs:List UInt8}(h:A3z w B v m bs)(hB:B'≤B):A3z w B' v m bs:=by
 rcases h with h|h
 ·exact .inl (A2k h hB)
 ·exact .inr h
theorem A3z.slK{B:Nat}{w w':World}{B':Nat}{a:Option Addr}{c m:Nat}{bs:List UInt8}(h:A3z w B' (.slice a m c) m bs)(hk:A0x B w w')(_hs:Sl A5f w a m bs):Sl A5f w' a m bs:=by
 obtain⟨a',c',e,hs,_⟩:=(h.keepL hk).sl
 cases e
 exact hs
def D7m(g:Nat)(x:IN)(w:World):Prop:=A3w g x w
def B0p(w w':World):Prop:=Below w.heap.size w w'
theorem B9v(r:RW):r.cells.toArray.all (·.oneCell')=true:=by simp[RW.cells,Value.oneCell']
theorem C6r(w:World)(B g:Nat)(s:LW)(a:Option Addr)(n cap:Nat)(l:List IN)(h:LoS w B g s)(hl:Ss 7 IN.cells w a n l)(hb:D5d B a n)(hf:∀x∈l,A9c x)(hn:n≤4096)(hsz:s.l.length≤999990000000)(hB:B≤w.heap.size)(hB0:0<B):
  Calls Tryz.prog 73 #[.pointer (some ⟨g,0,none⟩),.slice a n cap] w (B7p B g s l n w):=by
 have HS0:=Lib.hid h;have HL:=Lib.hid hl;have HLn:=Lib.hid hl.1;have HLB:=Lib.hid hb;have HF:=Lib.hid hf;have HBW:=Lib.hid hB;have hw0:0<w.heap.size:=by omega
 have hm1:∀W,(Instr.makeSlice 112 (.int .i64 n) (.int .i64 n)).run Tryz.prog W= .ok (.slice (some ⟨W.heap.size,0,none⟩) n n) (W.alloc (.cells ((List.replicate n rz).flatMap RW.cells).toArray B3s)):=fun W=>D0v W n (by omega)
 have hm2:∀W,(Instr.makeSlice 138 (.int .i64 ((n:Int)+1)) (.int .i64 ((n:Int)+1))).run Tryz.prog W= .ok (.slice (some ⟨W.heap.size,0,none⟩) (n+1) (n+1)) (W.alloc (.cells ((List.replicate (n+1) (0:Int)).map (Value.int .i64)).toArray 3)):=fun W=>C2q W n (by omega)
 generalize hz1:((List.replicate n rz).flatMap RW.cells).toArray=Z1 at*;generalize hz2:((List.replicate (n+1) (0:Int)).map (Value.int .i64)).toArray=Z2 at*;have HZ1:=Lib.hid hz1
 have HZ2:=Lib.hid hz2;clear h hl hb hf hB hz1 hz2;go_enter Tryz.func73,Tryz.ntmps73
 go_upto_region 3 with fail
 clear hm1 hm2;have hb2:Below w.heap.size w ((w.alloc (.cells Z1 B3s)).alloc (.cells Z2 3)):=((Below.refl w.heap.size w).alloc (Nat.le_refl _) _).alloc (by simp) _
 have HR0:=Lib.hid (show A5u ((w.alloc (.cells Z1 B3s)).alloc (.cells Z2 3)) w.heap.size (A4d (s.raws 0 l).2 0) by
  unfold A5u;rw[C2s,B0h,HLn.out,HZ1.out,Below.heap_alloc _ _ _ (by simp)];exact heap_alloc_last w _)
 have HA0:=Lib.hid (show A6n ((w.alloc (.cells Z1 B3s)).alloc (.cells Z2 3)) (w.heap.size+1) (A1r l 0) by
  unfold A6n;rw[B7c,HLn.out,HZ2.out];have h:=heap_alloc_last (w.alloc (.cells Z1 B3s)) (.cells Z2 3);rw[show(w.alloc (.cells Z1 B3s)).heap.size=w.heap.size+1 by simp]at h;exact h)
 have HSA:=Lib.hid (HS0.out.below hb2);have HKA:=Lib.hid (A0x.of hb2:A0x B w ((w.alloc (.cells Z1 B3s)).alloc (.cells Z2 3)))
 have hWs:w.heap.size+1<((w.alloc (.cells Z1 B3s)).alloc (.cells Z2 3)).heap.size:=by simp
 clear hb2 HZ1 HZ2;generalize(w.alloc (.cells Z1 B3s)).alloc (.cells Z2 3)=W0 at*
 go_wp2_with fail
 go_loopg [26] n (fun gn i wr=>∃j:Nat,j≤n∧gn=n-j∧i= .int .i64 j∧Hid (LoS wr B g (s.raws 0 (l.take j)).1)∧Hid (A0x B w wr)∧Hid (A5u wr w.heap.size (A4d (s.raws 0 l).2 j))∧Hid (A6n wr (w.heap.size+1) (A1r l j)))
 case atStart=>exact⟨0,by omega,by omega,by go_num,HSA,HKA,HR0,HA0⟩
 case round=>
  clear HSA HKA HR0 HA0 hWs;obtain⟨j,hj,rfl,rfl,HS,HK,HR,HA⟩:=hrel;by_cases hlt:j<n
  ·obtain⟨b,off,x,rfl,hbl,hx,q⟩:=(HK.out.ss HL.out HLB.out).getC j hlt;have q0:=q 0 (by omega);have q1:=q 1 (by omega);have q2:=q 2 (by omega);have q3:=q 3 (by omega)
   have q4:=q 4 (by omega);have q5:=q 5 (by omega);have q6:=q 6 (by omega);rw[Nat.add_zero]at q0;simp only[IN.cells,List.getElem?_cons_zero,List.getElem?_cons_succ]at q0 q1 q2 q3 q4 q5 q6
   have hj1:(j:Int)<n:=by omega
   have HFX:=Lib.hid (HF.out x (List.mem_of_getElem? hx));have HTK:=Lib.hid (C0s s l j x hx);have HAT:=Lib.hid (C3n s l j x hx);have HPS:=Lib.hid (C8q hx)
   have hlen:((s.raws 0 (l.take j)).1).l.length≤s.l.length+12*j:=by
    have h1:=B8f s 0 (l.take j);rw[List.length_take,HLn.out,Nat.min_eq_left hj]at h1;exact h1
   generalize s.raws 0 (l.take j)=SJ at*;obtain⟨sj,lj⟩:=SJ;dsimp only at HS HTK HAT hlen;obtain⟨p,hp⟩:∃p,p=B2p l j:=⟨_,rfl⟩;have hpb:p≤3*j:=by rw[hp];exact C2e l j
   rw[←hp]at HTK HAT HPS;have HP:=Lib.hid hp;obtain⟨X,hX⟩:∃X,X=x:=⟨_,rfl⟩;rw[←hX]at HFX HTK HAT HPS;have HXX:=Lib.hid hX;obtain⟨op,nn,mm,cl,nm,ds,tx⟩:=x;clear q hx hp hX
   go_upto_region 6 with fail
   have hal:=A0e wr (.cells #[.int .u8 (op:Nat),.int .i64 nn,.int .i64 mm,.string ⟨cl.toArray⟩,.string ⟨nm.toArray⟩,.string ⟨ds.toArray⟩,.string ⟨tx.toArray⟩] A1f)
   have HXB:=Lib.hid (show A3w wr.heap.size X (wr.alloc (.cells #[.int .u8 (op:Nat),.int .i64 nn,.int .i64 mm,.string ⟨cl.toArray⟩,.string ⟨nm.toArray⟩,.string ⟨ds.toArray⟩,.string ⟨tx.toArray⟩] A1f)) by rw[HXX.out];exact heap_alloc_last wr _)
   have hws:w.heap.size+1<wr.heap.size:=A0u HA.out;have HS1:=Lib.hid (HS.out.below hal);have HK1:=Lib.hid (HK.out.trans (A0x.of hal));have HR1:=Lib.hid (HR.out.below hal)
   have HA1:=Lib.hid (HA.out.below hal)
   have hsz1:(wr.alloc (.cells #[.int .u8 (op:Nat),.int .i64 nn,.int .i64 mm,.string ⟨cl.toArray⟩,.string ⟨nm.toArray⟩,.string ⟨ds.toArray⟩,.string ⟨tx.toArray⟩] A1f)).heap.size=wr.heap.size+1:=by simp
   clear hal q0 q1 q2 q3 q4 q5 q6 HS HK HR HA hbl
   generalize wr.alloc (.cells #[.int .u8 (op:Nat),.int .i64 nn,.int .i64 mm,.string ⟨cl.toArray⟩,.string ⟨nm.toArray⟩,.string ⟨ds.toArray⟩,.string ⟨tx.toArray⟩] A1f)=W at*
   generalize wr.heap.size=gx at*;have HSZ1:=Lib.hid hsz1
   have pa:W.cell? ⟨w.heap.size+1,j,none⟩=some (.int .i64 (p:Nat)):=HA1.out.cell (by rw[HP.out];exact A8j l j j (Nat.le_refl _) (by rw[HLn.out];exact hj))
   have po:W.cell? ⟨gx,0,none⟩=some (.int .u8 (op:Nat)):=by have h:=HXB.out.box.c0;rw[HXX.out]at h;exact h
   have hj2:(j:Int)<n+1:=by omega
   clear hsz1;have l0:∀z,B0p W z→z.cell? ⟨w.heap.size+1,j,none⟩=some (.int .i64 (p:Nat)):=fun z h=>A0f h pa
   have l1:∀z,B0p W z→z.cell? ⟨gx,0,none⟩=some (.int .u8 (op:Nat)):=fun z h=>A0f h po
   have hSw:B0p W W.drew:=(Below.refl _ _).drew
   refine A0g (B0p W) (.of [(0,true),(1,true),(2,true),(3,true),(4,true),(5,true),(6,true),(7,false),(8,false)] (.stir [])) (by kernel_rfl) (by kernel_rfl) (fun c a d v w h=>by cases d<;>exact h) ?_
   iterate 7
    refine A0b fun K hK=>tkF ?_
    go_simp
    try go_bits
    refine hK _ _ ?_;clear hK K
   refine A0b fun K hK=>alF ?_
   go_step;have hzb:Below W.heap.size W (W.alloc (.cells #[.int .i64 0,.int .u8 0,.int .i64 0,.int .i64 0] B3s)).drew:=((Below.refl _ _).alloc (Nat.le_refl _) _).drew;refine⟨hzb,hK _ _ ?_⟩
   clear hK K hSw;have HZB:=Lib.hid hzb
   have HZR:=Lib.hid (show(W.alloc (.cells #[.int .i64 0,.int .u8 0,.int .i64 0,.int .i64 0] B3s)).drew.heap[W.heap.size]? =some (.cells #[.int .i64 0,.int .u8 0,.int .i64 0,.int .i64 0] B3s (0,0))from heap_alloc_last W _)
   refine A0b fun K hK=>alF ?_
   refine wp_store_row B3s _ _ rfl W.heap.size #[.int .i64 (p:Nat),.int .u8 (op:Nat),.int .i64 0,.int .i64 0] rfl rfl B3s _ HZR.out C4s rfl (B9v ⟨(p:Nat),op,0,0⟩) ?_
   have hvb:Below W.heap.size W ((W.alloc (.cells #[.int .i64 0,.int .u8 0,.int .i64 0,.int .i64 0] B3s)).drew.setRow W.heap.size #[.int .i64 (p:Nat),.int .u8 (op:Nat),.int .i64 0,.int .i64 0]):=hzb.trans (below_setRow (Nat.le_refl _) _)
   have hvy:=setRow_heap _ W.heap.size _ #[.int .i64 (p:Nat),.int .u8 (op:Nat),.int .i64 0,.int .i64 0] _ _ HZR.out
   have HCJ:=Lib.hid (show CdJ w ((W.alloc (.cells #[.int .i64 0,.int .u8 0,.int .i64 0,.int .i64 0] B3s)).drew.setRow W.heap.size #[.int .i64 (p:Nat),.int .u8 (op:Nat),.int .i64 0,.int .i64 0]) B g w.heap.size (w.heap.size+1) gx (gx+1) (A4d (s.raws 0 l).2 j) (A1r l j) X ⟨(p:Nat),op,0,0⟩ sj from
    ⟨HS1.out.below hvb,HK1.out.trans (A0x.of hvb),HR1.out.below hvb,HA1.out.below hvb,HXB.out.below hvb,by rw[←HSZ1.out];exact hvy⟩)
   refine⟨hvb,hK _ _ ?_⟩;clear hK K hvb hvy hzb HZR HZB l0 l1 pa po HS1 HK1 HR1 HA1 HXB
   generalize hV:(W.alloc (.cells #[.int .i64 0,.int .u8 0,.int .i64 0,.int .i64 0] B3s)).drew.setRow W.heap.size #[.int .i64 (p:Nat),.int .u8 (op:Nat),.int .i64 0,.int .i64 0]=V at*
   have hVs:B0p W V:=by
    rw[←hV]
    exact(((Below.refl _ _).alloc (Nat.le_refl _) _).drew:Below W.heap.size W (W.alloc (.cells #[.int .i64 0,.int .u8 0,.int .i64 0,.int .i64 0] B3s)).drew).trans (below_setRow (Nat.le_refl _) _)
   refine A0m (fun y=>y=V) (fun y hy=>hy▸hVs) rfl ?_;refine A0p (fun y hy=> ?_);replace hy:=hy.symm;subst hy;have hgy:W.heap.size=gx+1:=HSZ1.out;rw[hgy];clear hV hVs hgy HSZ1
   have HFO:=Lib.hid (fun W=>B1x W op (by have h:=HFX.out.op;rw[HXX.out]at h;exact h));obtain⟨f,hf⟩:∃f,f=A0q op:=⟨_,rfl⟩;rw[←hf]at HFO;have HFE:=Lib.hid hf;clear hf
   have hxb:=HCJ.out.hx;rw[HXX.out]at hxb;obtain⟨j0,j1,j2,j3,j4,j5,j6,-,-,-,-,-,-⟩:=hxb.box;dsimp only at j0 j1 j2 j3 j4 j5 j6;clear hxb
   go_wp2_with fail
   refine(HFO.out V).mono ?_;rintro e V1 ⟨rfl,hb1⟩;have HCK:=Lib.hid (HCJ.out.below hb1);clear hb1 HCJ HFO j0 j1 j2 j3 j4 j5 j6;obtain⟨RR,hRR⟩:∃RR,RR=sj.raw p X:=⟨_,rfl⟩;rw[←hRR]at HTK HAT
   have HRR:=Lib.hid hRR;clear hRR
   go_upto_block 2 with fail
   go_cut [] (fun wx=>Hid (CdJ w wx B g w.heap.size (w.heap.size+1) gx (gx+1) (A4d (s.raws 0 l).2 j) (A1r l j) X RR.2 RR.1))
   case first=>
    by_cases hop:op=18
    ·have e18:((op:Int)==18)=true:=by rw[hop];rfl
     obtain⟨bq,hbq⟩:∃bq,bq=decide (X.cl=[]∧X.nm=[]∧X.m=0):=⟨_,rfl⟩;have HBQ:=Lib.hid hbq
     have HRA0:=show RR=(((sj.need bq 8).con X).1.need (decide (A0q op≠5)||decide (((sj.need bq 8).con X).2≤255)) 9,⟨(p:Nat),op,(((sj.need bq 8).con X).2:Nat),0⟩) by
      rw[HRR.out,hbq];unfold LW.raw;rw[if_pos (by rw[HXX.out];show op=18∨op=20;omega)];rw[HXX.out]
     clear hbq hop;have hl2:((sj.need bq 8).con X).1.l.length≤sj.l.length+4:=B7d (sj.need bq 8) X;have hi2:((sj.need bq 8).con X).2≤sj.l.length+4:=C8x (sj.need bq 8) X
     have HCO:=Lib.hid (fun W hs hB9=>B5b W B g (sj.need bq 8) X hs HFX.out (show sj.l.length≤_ by omega) hB9)
     rw[show X.cells.toArray= #[.int .u8 (op:Nat),.int .i64 nn,.int .i64 mm,.string ⟨cl.toArray⟩,.string ⟨nm.toArray⟩,.string ⟨ds.toArray⟩,.string ⟨tx.toArray⟩] by rw[HXX.out];rfl]at HCO
     generalize(sj.need bq 8).con X=c2 at*;obtain⟨s2,i2⟩:=c2;dsimp only at HRA0 HCO hl2 hi2;have HRA:=Lib.hid HRA0;clear HRA0;have hxb:=HCK.out.hx;rw[HXX.out]at hxb
     obtain⟨j0,j1,j2,j3,j4,j5,j6,-,-,-,-,-,-⟩:=hxb.box;dsimp only at j0 j1 j2 j3 j4 j5 j6;clear hxb
     go_upto_region 11 with fail
     go_cut [] (fun wx=>Hid (CdJ w wx B g w.heap.size (w.heap.size+1) gx (gx+1) (A4d (s.raws 0 l).2 j) (A1r l j) X ⟨(p:Nat),op,0,0⟩ (sj.need bq 8)))
     case first=>
      have HNN:=Lib.hid (fun b=>A0y V1 B g sj b 8 HCK.out.hs);clear j0 j1 j2 j3 j4 j5 j6;by_cases hc0:cl=[]
      ·have t0:(cl==[])=true:=by rw[hc0];rfl
       have t1:cl.isEmpty=true:=by rw[hc0];rfl
       by_cases hc1:nm=[]
       ·have t2:(nm==[])=true:=by rw[hc1];rfl
        have t3:nm.isEmpty=true:=by rw[hc1];rfl
        have t4:(mm==0)=bq:=by
         rw[HBQ.out,HXX.out,hc0,hc1,Bool.eq_iff_iff,beq_iff_eq,decide_eq_true_iff];simp
        clear hc0 hc1;have hxb:=HCK.out.hx;rw[HXX.out]at hxb;obtain⟨j0,j1,j2,j3,j4,j5,j6,-,-,-,-,-,-⟩:=hxb.box;dsimp only at j0 j1 j2 j3 j4 j5 j6;clear hxb
        go_wp2_with fail
        refine(HNN.out bq).mono ?_;rintro e V2 ⟨rfl,hs2,hk2⟩
        go_wp2_with fail
        go_meet;exact Lib.hid (HCK.out.call hs2 hk2)
       ·have t2:(nm==[])=false:=by simpa using hc1
        have t3:nm.isEmpty=false:=by simpa using hc1
        have hbb:bq=false:=by rw[HBQ.out,HXX.out];exact decide_eq_false (fun h=>hc1 h.2.1)
        subst hbb;clear hc0 hc1;have hxb:=HCK.out.hx;rw[HXX.out]at hxb;obtain⟨j0,j1,j2,j3,j4,j5,j6,-,-,-,-,-,-⟩:=hxb.box;dsimp only at j0 j1 j2 j3 j4 j5 j6;clear hxb
        go_wp2_with fail
        refine(HNN.out false).mono ?_;rintro e V2 ⟨rfl,hs2,hk2⟩
        go_wp2_with fail
        go_meet;exact Lib.hid (HCK.out.call hs2 hk2)
      ·have t0:(cl==[])=false:=by simpa using hc0
       have t1:cl.isEmpty=false:=by simpa using hc0
       have hbb:bq=false:=by rw[HBQ.out,HXX.out];exact decide_eq_false (fun h=>hc0 h.1)
       subst hbb;clear hc0;have hxb:=HCK.out.hx;rw[HXX.out]at hxb;obtain⟨j0,j1,j2,j3,j4,j5,j6,-,-,-,-,-,-⟩:=hxb.box;dsimp only at j0 j1 j2 j3 j4 j5 j6;clear hxb
       go_wp2_with fail
       refine(HNN.out false).mono ?_;rintro e V2 ⟨rfl,hs2,hk2⟩
       go_wp2_with fail
       go_meet;exact Lib.hid (HCK.out.call hs2 hk2)
     case rest=>
      have HC2:=hcut;clear hcut j0 j1 j2 j3 j4 j5 j6;have hxb:=HC2.out.hx;rw[HXX.out]at hxb;obtain⟨j0,j1,j2,j3,j4,j5,j6,-,-,-,-,-,-⟩:=hxb.box;dsimp only at j0 j1 j2 j3 j4 j5 j6
      clear hxb
      go_wp2_with fail
      refine(HCO.out wc HC2.out.hs (Nat.le_trans HBW.out HC2.out.hk.size)).mono ?_;rintro e V3 ⟨rfl,hs3,hk3⟩;have HC3:=Lib.hid (HC2.out.call hs3 hk3);clear hs3 hk3 HCO HC2 j0 j1 j2 j3 j4 j5 j6
      have yf:=A1a HC3.out.hy 2;have yl:=A0u HC3.out.hy;have yc:=A0a HC3.out.hy 2 rfl;dsimp only[RW.cells]at yc
      go_upto_region 13 with fail
      have HC4:=Lib.hid (show CdJ w (V3.setCell ⟨gx+1,2,none⟩ (.int .i64 (i2:Nat))) B g w.heap.size (w.heap.size+1) gx (gx+1) (A4d (s.raws 0 l).2 j) (A1r l j) X ⟨(p:Nat),op,(i2:Nat),0⟩ _ from HC3.out.put (by omega) (by omega) (by omega) (by omega) (by omega) 2 (.int .i64 (i2:Nat)) rfl)
      clear yf yl yc HC3;generalize V3.setCell ⟨gx+1,2,none⟩ (.int .i64 (i2:Nat))=V4 at*;by_cases hf5:f=5
      ·have e5:((f:Int) !=5)=false:=by rw[hf5];rfl
       obtain⟨b5,hb5⟩:∃b5,b5=decide (i2≤255):=⟨_,rfl⟩;have e6:decide ((i2:Int)≤255)=b5:=by rw[hb5];exact decide_eq_decide.2 (by omega)
       have HRB:=Lib.hid (show RR=(s2.need b5 9,⟨(p:Nat),op,(i2:Nat),0⟩) by rw[HRA.out,←HFE.out,hf5,hb5];rfl);have HNL:=Lib.hid (A0y V4 B g s2 b5 9 HC4.out.hs)
       have y2:=A0a HC4.out.hy 2 rfl;dsimp only[RW.cells]at y2;clear hb5 hf5
       go_wp2_with fail
       refine HNL.out.mono ?_;rintro e V5 ⟨rfl,hs5,hk5⟩
       go_wp2_with fail
       go_meet;exact Lib.hid (by rw[HRB.out];exact HC4.out.call hs5 hk5)
      ·have e5:((f:Int) !=5)=true:=by
        have:¬(f:Int)=5:=by omega
        simp[this]
       have HRB:=Lib.hid (show RR=(s2.need true 9,⟨(p:Nat),op,(i2:Nat),0⟩) by rw[HRA.out,←HFE.out];simp[hf5]);have HNL:=Lib.hid (A0y V4 B g s2 true 9 HC4.out.hs);clear hf5
       go_wp2_with fail
       refine HNL.out.mono ?_;rintro e V5 ⟨rfl,hs5,hk5⟩
       go_wp2_with fail
       go_meet;exact Lib.hid (by rw[HRB.out];exact HC4.out.call hs5 hk5)
    have o18:=hop;clear hop;by_cases hop:op=20
    ·have e18:((op:Int)==18)=false:=by rw[hop];rfl
     have e20:((op:Int)==20)=true:=by rw[hop];rfl
     obtain⟨bq,hbq⟩:∃bq,bq=decide (X.cl=[]∧X.nm=[]∧X.m=0):=⟨_,rfl⟩;have HBQ:=Lib.hid hbq
     have HRA0:=show RR=(((sj.need bq 8).con X).1.need (decide (A0q op≠5)||decide (((sj.need bq 8).con X).2≤255)) 9,⟨(p:Nat),op,(((sj.need bq 8).con X).2:Nat),0⟩) by
      rw[HRR.out,hbq];unfold LW.raw;rw[if_pos (by rw[HXX.out];show op=18∨op=20;omega)];rw[HXX.out]
     clear hbq hop;have hl2:((sj.need bq 8).con X).1.l.length≤sj.l.length+4:=B7d (sj.need bq 8) X;have hi2:((sj.need bq 8).con X).2≤sj.l.length+4:=C8x (sj.need bq 8) X
     have HCO:=Lib.hid (fun W hs hB9=>B5b W B g (sj.need bq 8) X hs HFX.out (show sj.l.length≤_ by omega) hB9)
     rw[show X.cells.toArray= #[.int .u8 (op:Nat),.int .i64 nn,.int .i64 mm,.string ⟨cl.toArray⟩,.string ⟨nm.toArray⟩,.string ⟨ds.toArray⟩,.string ⟨tx.toArray⟩] by rw[HXX.out];rfl]at HCO
     generalize(sj.need bq 8).con X=c2 at*;obtain⟨s2,i2⟩:=c2;dsimp only at HRA0 HCO hl2 hi2;have HRA:=Lib.hid HRA0;clear HRA0;have hxb:=HCK.out.hx;rw[HXX.out]at hxb
     obtain⟨j0,j1,j2,j3,j4,j5,j6,-,-,-,-,-,-⟩:=hxb.box;dsimp only at j0 j1 j2 j3 j4 j5 j6;clear hxb
     go_upto_region 11 with fail
     go_cut [] (fun wx=>Hid (CdJ w wx B g w.heap.size (w.heap.size+1) gx (gx+1) (A4d (s.raws 0 l).2 j) (A1r l j) X ⟨(p:Nat),op,0,0⟩ (sj.need bq 8)))
     case first=>
      have HNN:=Lib.hid (fun b=>A0y V1 B g sj b 8 HCK.out.hs);clear j0 j1 j2 j3 j4 j5 j6;by_cases hc0:cl=[]
      ·have t0:(cl==[])=true:=by rw[hc0];rfl
       have t1:cl.isEmpty=true:=by rw[hc0];rfl
       by_cases hc1:nm=[]
       ·have t2:(nm==[])=true:=by rw[hc1];rfl
        have t3:nm.isEmpty=true:=by rw[hc1];rfl
        have t4:(mm==0)=bq:=by
         rw[HBQ.out,HXX.out,hc0,hc1,Bool.eq_iff_iff,beq_iff_eq,decide_eq_true_iff];simp
        clear hc0 hc1;have hxb:=HCK.out.hx;rw[HXX.out]at hxb;obtain⟨j0,j1,j2,j3,j4,j5,j6,-,-,-,-,-,-⟩:=hxb.box;dsimp only at j0 j1 j2 j3 j4 j5 j6;clear hxb
        go_wp2_with fail
        refine(HNN.out bq).mono ?_;rintro e V2 ⟨rfl,hs2,hk2⟩
        go_wp2_with fail
        go_meet;exact Lib.hid (HCK.out.call hs2 hk2)
       ·have t2:(nm==[])=false:=by simpa using hc1
        have t3:nm.isEmpty=false:=by simpa using hc1
        have hbb:bq=false:=by rw[HBQ.out,HXX.out];exact decide_eq_false (fun h=>hc1 h.2.1)
        subst hbb;clear hc0 hc1;have hxb:=HCK.out.hx;rw[HXX.out]at hxb;obtain⟨j0,j1,j2,j3,j4,j5,j6,-,-,-,-,-,-⟩:=hxb.box;dsimp only at j0 j1 j2 j3 j4 j5 j6;clear hxb
        go_wp2_with fail
        refine(HNN.out false).mono ?_;rintro e V2 ⟨rfl,hs2,hk2⟩
        go_wp2_with fail
        go_meet;exact Lib.hid (HCK.out.call hs2 hk2)
      ·have t0:(cl==[])=false:=by simpa using hc0
       have t1:cl.isEmpty=false:=by simpa using hc0
       have hbb:bq=false:=by rw[HBQ.out,HXX.out];exact decide_eq_false (fun h=>hc0 h.1)
       subst hbb;clear hc0;have hxb:=HCK.out.hx;rw[HXX.out]at hxb;obtain⟨j0,j1,j2,j3,j4,j5,j6,-,-,-,-,-,-⟩:=hxb.box;dsimp only at j0 j1 j2 j3 j4 j5 j6;clear hxb
       go_wp2_with fail
       refine(HNN.out false).mono ?_;rintro e V2 ⟨rfl,hs2,hk2⟩
       go_wp2_with fail
       go_meet;exact Lib.hid (HCK.out.call hs2 hk2)
     case rest=>
      have HC2:=hcut;clear hcut j0 j1 j2 j3 j4 j5 j6;have hxb:=HC2.out.hx;rw[HXX.out]at hxb;obtain⟨j0,j1,j2,j3,j4,j5,j6,-,-,-,-,-,-⟩:=hxb.box;dsimp only at j0 j1 j2 j3 j4 j5 j6
      clear hxb
      go_wp2_with fail
      refine(HCO.out wc HC2.out.hs (Nat.le_trans HBW.out HC2.out.hk.size)).mono ?_;rintro e V3 ⟨rfl,hs3,hk3⟩;have HC3:=Lib.hid (HC2.out.call hs3 hk3);clear hs3 hk3 HCO HC2 j0 j1 j2 j3 j4 j5 j6
      have yf:=A1a HC3.out.hy 2;have yl:=A0u HC3.out.hy;have yc:=A0a HC3.out.hy 2 rfl;dsimp only[RW.cells]at yc
      go_upto_region 13 with fail
      have HC4:=Lib.hid (show CdJ w (V3.setCell ⟨gx+1,2,none⟩ (.int .i64 (i2:Nat))) B g w.heap.size (w.heap.size+1) gx (gx+1) (A4d (s.raws 0 l).2 j) (A1r l j) X ⟨(p:Nat),op,(i2:Nat),0⟩ _ from HC3.out.put (by omega) (by omega) (by omega) (by omega) (by omega) 2 (.int .i64 (i2:Nat)) rfl)
      clear yf yl yc HC3;generalize V3.setCell ⟨gx+1,2,none⟩ (.int .i64 (i2:Nat))=V4 at*;by_cases hf5:f=5
      ·have e5:((f:Int) !=5)=false:=by rw[hf5];rfl
       obtain⟨b5,hb5⟩:∃b5,b5=decide (i2≤255):=⟨_,rfl⟩;have e6:decide ((i2:Int)≤255)=b5:=by rw[hb5];exact decide_eq_decide.2 (by omega)
       have HRB:=Lib.hid (show RR=(s2.need b5 9,⟨(p:Nat),op,(i2:Nat),0⟩) by rw[HRA.out,←HFE.out,hf5,hb5];rfl);have HNL:=Lib.hid (A0y V4 B g s2 b5 9 HC4.out.hs)
       have y2:=A0a HC4.out.hy 2 rfl;dsimp only[RW.cells]at y2;clear hb5 hf5
       go_wp2_with fail
       refine HNL.out.mono ?_;rintro e V5 ⟨rfl,hs5,hk5⟩
       go_wp2_with fail
       go_meet;exact Lib.hid (by rw[HRB.out];exact HC4.out.call hs5 hk5)
      ·have e5:((f:Int) !=5)=true:=by
        have:¬(f:Int)=5:=by omega
        simp[this]
       have HRB:=Lib.hid (show RR=(s2.need true 9,⟨(p:Nat),op,(i2:Nat),0⟩) by rw[HRA.out,←HFE.out];simp[hf5]);have HNL:=Lib.hid (A0y V4 B g s2 true 9 HC4.out.hs);clear hf5
       go_wp2_with fail
       refine HNL.out.mono ?_;rintro e V5 ⟨rfl,hs5,hk5⟩
       go_wp2_with fail
       go_meet;exact Lib.hid (by rw[HRB.out];exact HC4.out.call hs5 hk5)
    have o20:=hop;clear hop;by_cases hf6:f=6
    ·have e18:((op:Int)==18)=false:=by rw[beq_eq_false_iff_ne];omega
     have e20:((op:Int)==20)=false:=by rw[beq_eq_false_iff_ne];omega
     have e6:((f:Int)==6)=true:=by rw[hf6];rfl
     have HRA0:=show RR=((sj.wide X).1,⟨(p:Nat),op,((sj.wide X).2:Nat),0⟩) by
      rw[HRR.out];unfold LW.raw;rw[if_neg (by rw[HXX.out];show ¬(op=18∨op=20);omega),if_pos (by rw[HXX.out];show A0q op=6;rw[←HFE.out];exact hf6)];rw[HXX.out]
     clear o18 o20 hf6;have hi2:(sj.wide X).2≤sj.l.length+12:=D0a sj X;have HCO:=Lib.hid (C7q V1 B g sj X HCK.out.hs HFX.out (by omega) (Nat.le_trans HBW.out HCK.out.hk.size))
     rw[show X.cells.toArray= #[.int .u8 (op:Nat),.int .i64 nn,.int .i64 mm,.string ⟨cl.toArray⟩,.string ⟨nm.toArray⟩,.string ⟨ds.toArray⟩,.string ⟨tx.toArray⟩] by rw[HXX.out];rfl]at HCO
     generalize sj.wide X=c2 at*;obtain⟨s2,i2⟩:=c2;dsimp only at HRA0 HCO hi2;have HRA:=Lib.hid HRA0;clear HRA0;have hxb:=HCK.out.hx;rw[HXX.out]at hxb
     obtain⟨j0,j1,j2,j3,j4,j5,j6,-,-,-,-,-,-⟩:=hxb.box;dsimp only at j0 j1 j2 j3 j4 j5 j6;clear hxb
     go_wp2_with fail
     refine HCO.out.mono ?_;rintro e V3 ⟨rfl,hs3,hk3⟩;have HC3:=Lib.hid (HCK.out.call hs3 hk3);clear hs3 hk3 HCO HCK j0 j1 j2 j3 j4 j5 j6;have yf:=A1a HC3.out.hy 2
     have yl:=A0u HC3.out.hy;have yc:=A0a HC3.out.hy 2 rfl;dsimp only[RW.cells]at yc
     go_wp2_with fail
     have HC4:=Lib.hid (show CdJ w (V3.setCell ⟨gx+1,2,none⟩ (.int .i64 (i2:Nat))) B g w.heap.size (w.heap.size+1) gx (gx+1) (A4d (s.raws 0 l).2 j) (A1r l j) X ⟨(p:Nat),op,(i2:Nat),0⟩ _ from HC3.out.put (by omega) (by omega) (by omega) (by omega) (by omega) 2 (.int .i64 (i2:Nat)) rfl)
     go_meet;exact Lib.hid (by rw[HRA.out];exact HC4.out)
    by_cases hf0:f=0
    ·have e18:((op:Int)==18)=false:=by rw[beq_eq_false_iff_ne];omega
     have e20:((op:Int)==20)=false:=by rw[beq_eq_false_iff_ne];omega
     have e6:((f:Int)==6)=false:=by rw[beq_eq_false_iff_ne];omega
     have e0:((f:Int)==0)=true:=by rw[hf0];rfl
     have HRA:=Lib.hid (show RR=(sj.need false 8,⟨(p:Nat),op,0,0⟩) by
      rw[HRR.out];unfold LW.raw
      rw[if_neg (by rw[HXX.out];show ¬(op=18∨op=20);omega),if_neg (by rw[HXX.out];show ¬A0q op=6;rw[←HFE.out];exact hf6),if_pos (by rw[HXX.out];show A0q op=0;rw[←HFE.out];exact hf0)]
      rw[HXX.out])
     clear o18 o20 hf6 hf0;have HNL:=Lib.hid (A0y V1 B g sj false 8 HCK.out.hs);have hxb:=HCK.out.hx;rw[HXX.out]at hxb;obtain⟨j0,j1,j2,j3,j4,j5,j6,-,-,-,-,-,-⟩:=hxb.box
     dsimp only at j0 j1 j2 j3 j4 j5 j6;clear hxb
     go_wp2_with fail
     refine HNL.out.mono ?_;rintro e V5 ⟨rfl,hs5,hk5⟩
     go_wp2_with fail
     go_meet;exact Lib.hid (by rw[HRA.out];exact HCK.out.call hs5 hk5)
    have e18:((op:Int)==18)=false:=by rw[beq_eq_false_iff_ne];omega
    have e20:((op:Int)==20)=false:=by rw[beq_eq_false_iff_ne];omega
    have e6:((f:Int)==6)=false:=by rw[beq_eq_false_iff_ne];omega
    have e0:((f:Int)==0)=false:=by rw[beq_eq_false_iff_ne];omega
    have HRA0:=show RR=((sj.need (B6y X) 8).need (A8a nn) 8,⟨(p:Nat),op,A4e nn,mm⟩) by
     rw[HRR.out];unfold LW.raw
     rw[if_neg (by rw[HXX.out];show ¬(op=18∨op=20);omega),if_neg (by rw[HXX.out];show ¬A0q op=6;rw[←HFE.out];exact hf6),if_neg (by rw[HXX.out];show ¬A0q op=0;rw[←HFE.out];exact hf0)]
     rw[HXX.out];rfl
    clear o18 o20 hf6 hf0;have HPL:=Lib.hid (C5p V1 X HFX.out.op)
    rw[show X.cells.toArray= #[.int .u8 (op:Nat),.int .i64 nn,.int .i64 mm,.string ⟨cl.toArray⟩,.string ⟨nm.toArray⟩,.string ⟨ds.toArray⟩,.string ⟨tx.toArray⟩] by rw[HXX.out];rfl]at HPL
    generalize B6y X=pb at*;have HRA:=Lib.hid HRA0;clear HRA0;have hxb:=HCK.out.hx;rw[HXX.out]at hxb;obtain⟨j0,j1,j2,j3,j4,j5,j6,-,-,-,-,-,-⟩:=hxb.box
    dsimp only at j0 j1 j2 j3 j4 j5 j6;clear hxb
    go_wp2_with fail
    refine HPL.out.mono ?_;rintro e V2 ⟨rfl,hb2⟩;have HC2:=Lib.hid (HCK.out.below hb2);clear hb2 HPL HCK j0 j1 j2 j3 j4 j5 j6;have HNL:=Lib.hid (A0y V2 B g sj pb 8 HC2.out.hs)
    go_wp2_with fail
    refine HNL.out.mono ?_;rintro e V3 ⟨rfl,hs3,hk3⟩;have HC3:=Lib.hid ((HC2.out.call hs3 hk3).below ((Below.refl _ _).drew));clear hs3 hk3 HC2 HNL
    go_upto_region 9 with fail
    have hSw:D7m gx X V3.drew:=HC3.out.hx;have l1:∀z,D7m gx X z→z.cell? ⟨gx,1,none⟩=some (.int .i64 nn):=fun z h=>by have h2:=h.box.c1;rw[HXX.out]at h2;exact h2
    have l2:∀z,D7m gx X z→z.cell? ⟨gx,2,none⟩=some (.int .i64 mm):=fun z h=>by have h2:=h.box.c2;rw[HXX.out]at h2;exact h2
    refine A0g (D7m gx X) (.of [(0,true),(1,true),(2,true),(4,true),(5,true),(3,false),(6,true),(7,false),(8,true),(9,false)] (.stir [])) (by kernel_rfl) (by kernel_rfl) (fun c a d v w h=>by cases d<;>exact h) ?_
    generalize V3.drew=V4 at*
    iterate 5
     refine A0b fun K hK=>tkF ?_
     go_simp
     try go_bits
     refine hK _ _ ?_;clear hK K
    refine A0b fun K hK=>alF ?_
    go_step;refine(C0x V4 B g (sj.need pb 8) nn HC3.out.hs).mono ?_;rintro e V5 ⟨rfl,hs5,hk5⟩;have HC5:=Lib.hid (HC3.out.call hs5 hk5);clear hs5 hk5 HC3 hSw
    have hSw:D7m gx X V5:=HC5.out.hx;go_simp
    first|refine⟨hSw,hK _ _ ?_⟩|refine hK _ _ ?_
    clear hK K;have yf:=A1a HC5.out.hy 2;have yl:=A0u HC5.out.hy;have yc:=A0a HC5.out.hy 2 rfl;dsimp only[RW.cells]at yc
    iterate 1
     refine A0b fun K hK=>tkF ?_
     go_simp
     try go_bits
     refine hK _ _ ?_;clear hK K
    refine A0b fun K hK=>alF ?_
    go_step
    have HC6:=Lib.hid (show CdJ w (V5.setCell ⟨gx+1,2,none⟩ (.int .i64 (A4e nn))) B g w.heap.size (w.heap.size+1) gx (gx+1) (A4d (s.raws 0 l).2 j) (A1r l j) X ⟨(p:Nat),op,A4e nn,0⟩ _ from HC5.out.put (by omega) (by omega) (by omega) (by omega) (by omega) 2 (.int .i64 (A4e nn)) rfl)
    clear hSw yf yl yc HC5;have hSw:D7m gx X (V5.setCell ⟨gx+1,2,none⟩ (.int .i64 (A4e nn))):=HC6.out.hx
    first|refine⟨hSw,hK _ _ ?_⟩|refine hK _ _ ?_
    clear hK K;generalize V5.setCell ⟨gx+1,2,none⟩ (.int .i64 (A4e nn))=V6 at*;have yf:=A1a HC6.out.hy 3;have yl:=A0u HC6.out.hy;have yc:=A0a HC6.out.hy 3 rfl
    dsimp only[RW.cells]at yc
    iterate 1
     refine A0b fun K hK=>tkF ?_
     go_simp
     try go_bits
     refine hK _ _ ?_;clear hK K
    refine A0b fun K hK=>alF ?_
    go_step
    have HC7:=Lib.hid (show CdJ w (V6.setCell ⟨gx+1,3,none⟩ (.int .i64 mm)) B g w.heap.size (w.heap.size+1) gx (gx+1) (A4d (s.raws 0 l).2 j) (A1r l j) X ⟨(p:Nat),op,A4e nn,mm⟩ _ from HC6.out.put (by omega) (by omega) (by omega) (by omega) (by omega) 3 (.int .i64 mm) rfl)
    clear hSw yf yl yc HC6;have hSw:D7m gx X (V6.setCell ⟨gx+1,3,none⟩ (.int .i64 mm)):=HC7.out.hx
    first|refine⟨hSw,hK _ _ ?_⟩|refine hK _ _ ?_
    clear hK K;generalize V6.setCell ⟨gx+1,3,none⟩ (.int .i64 mm)=V7 at*;refine A0m (fun y=>y=V7) (fun y hy=>hy▸hSw) rfl ?_;refine A0p (fun y hy=> ?_);replace hy:=hy.symm
    subst hy;clear hSw l1 l2
    go_wp2_with fail
    go_meet;exact Lib.hid (by rw[HRA.out];exact HC7.out)
   case rest=>
    have HC:=hcut;clear hcut HCK;obtain⟨RS,RP⟩:=RR;dsimp only at HC HTK HAT;have HCL:=Lib.hid HC.out.hy;obtain⟨rp,ro,ra,rb⟩:=RP;have y0:=A0a HC.out.hy 0 rfl
    have y1:=A0a HC.out.hy 1 rfl;have y2:=A0a HC.out.hy 2 rfl;have y3:=A0a HC.out.hy 3 rfl;dsimp only[RW.cells]at y0 y1 y2 y3
    have HRL:=Lib.hid (show(((A4d (s.raws 0 l).2 j).flatMap RW.cells).toArray).size=n*4 by rw[List.size_toArray,A6p RW.cells_length,B6p,B0h,HLn.out])
    obtain⟨CR,hCR⟩:∃CR,CR=((A4d (s.raws 0 l).2 j).flatMap RW.cells).toArray:=⟨_,rfl⟩;have HCR:=Lib.hid hCR
    have HRR2:=Lib.hid (show wc.heap[w.heap.size]? =some (.cells CR B3s (0,0)) by rw[hCR];exact HC.out.hr);rw[←hCR]at HRL;clear hCR;have hq:j*4+4≤n*4:=by omega
    go_upto_region 18 with fail
    go_wp2_with (first
     |(refine B2u rfl _ _ _ rfl w.heap.size (j*4) #[.int .i64 rp,.int .u8 (ro:Nat),.int .i64 ra,.int .i64 rb] rfl rfl CR _ HRR2.out (by rw[HRL.out];exact hq) C4s (B9v ⟨rp,ro,ra,rb⟩) ?_))
    generalize hVV:wc.setRow w.heap.size _=V9;have hV:=HC.out.hr.setR j (by rw[B6p,B0h,HLn.out];exact hlt) ⟨rp,ro,ra,rb⟩;rw[←HCR.out,C6h _ _ _ HAT.out]at hV
    have HR2:=Lib.hid (show A5u V9 w.heap.size (A4d (s.raws 0 l).2 (j+1)) by rw[←hVV];exact hV)
    have HS2:=Lib.hid (show LoS V9 B g RS by rw[←hVV];exact HC.out.hs.setR HC.out.hr (by decide) (by decide) hw0 _)
    have HK2:=Lib.hid (show A0x B w V9 by rw[←hVV];exact HC.out.hk.thenB (below_setRow (Nat.le_refl _) _))
    have HA2:=Lib.hid (show A6n V9 (w.heap.size+1) (A1r l j) by rw[←hVV];exact(setRow_other wc w.heap.size (w.heap.size+1) _ (by omega)).trans HC.out.ha)
    have HX2:=Lib.hid (show A3w gx X V9 by rw[←hVV];exact(setRow_other wc w.heap.size gx _ (by omega)).trans HC.out.hx);clear hV hVV HRR2 HRL HCR HC HCL y0 y1 y2 y3 hq
    have HLE:=Lib.hid (fun W=>D4j W op (by have h:=HFX.out.op;rw[HXX.out]at h;exact h));obtain⟨ln,hln⟩:∃ln,ln=A2m (A0q op):=⟨_,rfl⟩;rw[←hln]at HLE
    have HLN:=Lib.hid (show D1k X=ln by rw[HXX.out,hln];rfl);have hlb:ln≤3:=by rw[←HLN.out];exact C9w X
    clear hln
    go_upto_region 19 with fail
    have hj2:(j:Int)<n+1:=by omega
    have hj3:(j:Int)+1<n+1:=by omega
    have hj4:(0:Int)≤(j:Int)+1:=by omega
    have l0:∀z,B0p V9 z→z.cell? ⟨w.heap.size+1,j,none⟩=some (.int .i64 (p:Nat)):=fun z h=>A0f h (HA2.out.cell (by rw[HP.out];exact A8j l j j (Nat.le_refl _) (by rw[HLn.out];exact hj)))
    have l1:∀z,B0p V9 z→z.cell? ⟨gx,0,none⟩=some (.int .u8 (op:Nat)):=fun z h=>A0f h (by have h:=HX2.out.box.c0;rw[HXX.out]at h;exact h)
    have hSw:B0p V9 V9.drew:=(Below.refl _ _).drew
    refine A2v (B0p V9) 12 [(0,true),(1,true),(2,true),(3,true),(4,true),(5,true),(6,true),(7,true),(8,true),(9,false),(10,true),(11,true)] (by kernel_rfl) (by kernel_rfl) (fun c a d v w h=>by cases d<;>exact h) ?_
    iterate 9
     refine A0t fun K hK=>tkF ?_
     go_simp
     try go_bits
     refine hK _ _ ?_;clear hK K
    refine A0t fun K hK=>alF ?_
    go_step;refine(HLE.out _).mono ?_;rintro e V10 ⟨rfl,hb10⟩;have hSx:B0p V9 V10:=hSw.trans (hb10.mono hSw.size);clear hb10 hSw HLE;have hSw:=hSx;clear hSx;go_simp
    first|refine⟨hSw,hK _ _ ?_⟩|refine hK _ _ ?_
    clear hK K
    iterate 2
     refine A0t fun K hK=>tkF ?_
     go_simp
     try go_bits
     refine hK _ _ ?_;clear hK K
    have HA3:=Lib.hid (HA2.out.below hSw);have fo:=A1a HA3.out (j+1);have lto:=A0u HA3.out
    have co:V10.cell? ⟨w.heap.size+1,j+1,none⟩=some (.int .i64 ((A1r l j).getD (j+1) 0)):=HA3.out.cell (by
     rw[List.getD_eq_getElem?_getD,List.getElem?_eq_getElem (by rw[B8u,HLn.out];omega)];rfl)
    refine A5p (laF ?_);go_step
    have HA4:=Lib.hid (show A6n (V10.setCell ⟨w.heap.size+1,j+1,none⟩ (.int .i64 ((p:Int)+ln))) (w.heap.size+1) (A1r l (j+1))from by
     rw[←B9u l j (by rw[HLn.out];exact hlt),HPS.out,HLN.out];exact HA3.out.set (j+1) _)
    have HR4:=Lib.hid (show A5u (V10.setCell ⟨w.heap.size+1,j+1,none⟩ (.int .i64 ((p:Int)+ln))) w.heap.size (A4d (s.raws 0 l).2 (j+1))from A1c (HR2.out.below hSw) (by omega) _ _)
    have HS4:=Lib.hid ((HS2.out.below hSw).setO HA3.out (by decide) (by decide) (by omega) (j+1) (.int .i64 ((p:Int)+ln)))
    have HK4:=Lib.hid (HK2.out.thenB ((hSw.mono HK2.out.size).trans (show Below w.heap.size V10 (V10.setCell ⟨w.heap.size+1,j+1,none⟩ (.int .i64 ((p:Int)+ln)))from(Below.refl _ _).setCell (show w.heap.size≤w.heap.size+1 by omega) _)))
    clear hSw l0 l1 fo lto co HA3 HA2 HR2 HS2 HK2 HX2 hj2 hj3 hj4
    go_wp2_with fail
    go_roundg (n-(j+1))
    case measure=>omega
    case rel=>exact⟨j+1,by omega,rfl,by go_num,Lib.hid (by rw[HTK.out];exact HS4.out),HK4,HR4,HA4⟩
  ·obtain rfl:j=n:=by omega
   have hfull:l.take j=l:=List.take_of_length_le (by rw[HLn.out];exact Nat.le_refl _);rw[hfull]at HS;have HNR:=Lib.hid (show(s.raws 0 l).2.length=j by rw[B0h];exact HLn.out)
   have HOK:=Lib.hid (D6t s l hsz (by rw[HLn.out];exact hn) (fun x hx=>(HF.out x hx).op));have HAT:=Lib.hid (C3n s l)
   have HFIN:=Lib.hid (show s.code l=((((s.raws 0 l).1).goes l l).need (decide ((A4b (B2f l (s.raws 0 l).2)).1=0)) (A4b (B2f l (s.raws 0 l).2)).1,(A4b (B2f l (s.raws 0 l).2)).2)from rfl)
   have HRR:=Lib.hid (show A5u wr w.heap.size (A5w l (s.raws 0 l).2 0) by
    have h:=HR.out;rw[←HNR.out,C6s]at h;rw[C2y];exact h)
   have HAA:=Lib.hid (show A6n wr (w.heap.size+1) (A1r l l.length) by rw[HLn.out];exact HA.out);clear hfull HR HA hlt hj;generalize s.raws 0 l=SR at*;obtain⟨s1,R⟩:=SR
   dsimp only at HS HNR HOK HAT HFIN HRR;obtain⟨W7,hW7⟩:∃W7,W7=wr:=⟨_,rfl⟩;subst hW7
   go_wp2_with fail
   go_loopg [121] j (fun gn i wx=>∃k:Nat,k≤j∧gn=j-k∧i= .int .i64 k∧Hid (LoS wx B g (s1.goes l (l.take k)))∧Hid (A0x B w wx)∧Hid (A5u wx w.heap.size (A5w l R k))∧Hid (A6n wx (w.heap.size+1) (A1r l l.length)))
   case atStart=>exact⟨0,by omega,by omega,by go_num,HS,HK,HRR,HAA⟩
   case round=>
    clear HS HK HRR HAA;obtain⟨k,hk,rfl,rfl,HS,HK,HR,HA⟩:=hrel;by_cases hlt:k<j
    ·obtain⟨b,off,x,rfl,hbl,hx,q⟩:=(HK.out.ss HL.out HLB.out).getC k hlt;have q0:=q 0 (by omega);have q1:=q 1 (by omega);have q2:=q 2 (by omega);have q3:=q 3 (by omega)
     have q4:=q 4 (by omega);have q5:=q 5 (by omega);have q6:=q 6 (by omega);rw[Nat.add_zero]at q0;simp only[IN.cells,List.getElem?_cons_zero,List.getElem?_cons_succ]at q0 q1 q2 q3 q4 q5 q6
     have hj1:(k:Int)<j:=by omega
     have HFX:=Lib.hid (HF.out x (List.mem_of_getElem? hx));have hrx:=HAT.out k x hx;generalize((s.raws 0 (l.take k)).1.raw (B2p l k) x).2=rk at hrx
     have HSN:=Lib.hid (show s1.goes l (l.take (k+1))=if A0q x.op=7 then(s1.goes l (l.take k)).need (inB l x.n) 2 else s1.goes l (l.take k) by
      have hjl:=(List.getElem?_eq_some_iff.1 hx).1;rw[List.take_succ_eq_append_getElem hjl,(List.getElem?_eq_some_iff.1 hx).2,D0j])
     have HST:=Lib.hid (C1j l R k x rk hx hrx);have HSE:=Lib.hid (B6m l R k x rk hx hrx);have HGA:=Lib.hid (B8k l R k rk hrx)
     have HIB:=Lib.hid (show inB l x.n=decide (0≤x.n∧x.n<j) by unfold inB;rw[HLn.out]);generalize s1.goes l (l.take k)=sk at*;have HFO:=Lib.hid (fun W=>B1x W x.op HFX.out.op)
     obtain⟨f,hf⟩:∃f,f=A0q x.op:=⟨_,rfl⟩;rw[←hf]at HFO HSN
     have HBR:=Lib.hid (show A9n l x rk=if f=7∧inB l x.n=true then{rk with a:=(B2p l x.n.toNat:Nat)}else rk by unfold A9n;rw[hf])
     obtain⟨op,nn,mm,cl,nm,ds,tx⟩:=x;dsimp only at q0 q1 q2 q3 q4 q5 q6 HFO HSN HBR HIB;clear q hx hrx hf
     go_upto_region 24 with fail
     have hal:=A0e wr (.cells #[.int .u8 (op:Nat),.int .i64 nn,.int .i64 mm,.string ⟨cl.toArray⟩,.string ⟨nm.toArray⟩,.string ⟨ds.toArray⟩,.string ⟨tx.toArray⟩] A1f)
     have HXB:=Lib.hid (show A3w wr.heap.size ⟨op,nn,mm,cl,nm,ds,tx⟩ (wr.alloc (.cells #[.int .u8 (op:Nat),.int .i64 nn,.int .i64 mm,.string ⟨cl.toArray⟩,.string ⟨nm.toArray⟩,.string ⟨ds.toArray⟩,.string ⟨tx.toArray⟩] A1f))from heap_alloc_last wr _)
     have hws:w.heap.size+1<wr.heap.size:=A0u HA.out;have HS1:=Lib.hid (HS.out.below hal);have HK1:=Lib.hid (HK.out.trans (A0x.of hal));have HR1:=Lib.hid (HR.out.below hal)
     have HA1:=Lib.hid (HA.out.below hal);clear hal q0 q1 q2 q3 q4 q5 q6 HS HK HR HA hbl
     generalize wr.alloc (.cells #[.int .u8 (op:Nat),.int .i64 nn,.int .i64 mm,.string ⟨cl.toArray⟩,.string ⟨nm.toArray⟩,.string ⟨ds.toArray⟩,.string ⟨tx.toArray⟩] A1f)=W at*
     generalize wr.heap.size=gx at*;obtain⟨j0,j1,j2,j3,j4,j5,j6,-,-,-,-,-,-⟩:=HXB.out.box;dsimp only at j0 j1 j2 j3 j4 j5 j6;by_cases f7:f=7
     ·have e7:((f:Int) !=7)=false:=by rw[f7];rfl
      rw[if_pos f7]at HSN;have HF7:=Lib.hid f7;clear f7
      go_wp2_with fail
      refine(HFO.out W).mono ?_;rintro e W1 ⟨rfl,hb1⟩;have HS2:=Lib.hid (HS1.out.below hb1);have HK2:=Lib.hid (HK1.out.trans (A0x.of hb1));have HR2:=Lib.hid (HR1.out.below hb1)
      have HA2:=Lib.hid (HA1.out.below hb1);have HXC:=Lib.hid (HXB.out.below hb1);clear hb1 HS1 HK1 HR1 HA1 HXB HFO j0 j1 j2 j3 j4 j5 j6
      obtain⟨j0,j1,j2,j3,j4,j5,j6,-,-,-,-,-,-⟩:=HXC.out.box;dsimp only at j0 j1 j2 j3 j4 j5 j6;have HNN:=Lib.hid (fun bb=>A0y W1 B g sk bb 2 HS2.out);by_cases h0:0≤nn
      ·have d0:decide (0≤nn)=true:=decide_eq_true h0;by_cases h1:nn<j
       ·obtain⟨t,ht⟩:∃t:Nat,nn=(t:Int):=⟨nn.toNat,by omega⟩;subst ht;have d1:decide ((t:Int)<j)=true:=decide_eq_true h1
        have hib:inB l (t:Int)=true:=by rw[HIB.out];exact decide_eq_true ⟨h0,h1⟩
        rw[hib]at HSN HBR;have htj:t<j:=by omega
        have HBS:=Lib.hid (show A9n l ⟨op,(t:Int),mm,cl,nm,ds,tx⟩ rk={rk with a:=(B2p l t:Nat)} by rw[HBR.out,if_pos ⟨HF7.out,rfl⟩,Int.toNat_natCast])
        clear hib HBR HIB h0 h1
        go_wp2_with fail
        refine(HNN.out true).mono ?_;rintro e W2 ⟨rfl,hs2,hk2⟩;have HS3:=Lib.hid hs2;have HK3:=Lib.hid (HK2.out.trans hk2);have HR3:=Lib.hid (HR2.out.keepL hk2)
        have HA3:=Lib.hid (HA2.out.keepL hk2);have HXD:=Lib.hid (HXC.out.keepL hk2);clear hs2 hk2 HS2 HK2 HR2 HA2 HXC HNN j0 j1 j2 j3 j4 j5 j6 d0 d1
        obtain⟨j0,j1,j2,j3,j4,j5,j6,-,-,-,-,-,-⟩:=HXD.out.box;dsimp only at j0 j1 j2 j3 j4 j5 j6
        have pt:W2.cell? ⟨w.heap.size+1,t,none⟩=some (.int .i64 (B2p l t:Nat)):=HA3.out.cell (A8j l l.length t (by rw[HLn.out];omega) (by rw[HLn.out];omega))
        have hkl:k<(A5w l R k).length:=by rw[C7n,HNR.out];exact hlt
        have pr:=HR3.out.cellA k hkl;have fr:=A1a HR3.out (k*4+2);have lr:=A0u HR3.out;have ht1:(t:Int)<j+1:=by omega
        go_wp2_with fail
        have HR4:=Lib.hid (show A5u (W2.setCell ⟨w.heap.size,k*4+2,none⟩ (.int .i64 (B2p l t:Nat))) w.heap.size (A5w l R (k+1))from by
         have h:=HR3.out.setA k hkl (B2p l t:Nat);rw[(List.getElem?_eq_some_iff.1 HGA.out).2]at h;rw[←HSE.out,HBS.out];exact h)
        have HA4:=Lib.hid (show A6n (W2.setCell ⟨w.heap.size,k*4+2,none⟩ (.int .i64 (B2p l t:Nat))) (w.heap.size+1) (A1r l l.length)from A1c HA3.out (by omega) _ _)
        have HS4:=Lib.hid (HS3.out.setO HR3.out (by decide) (by decide) hw0 (k*4+2) (.int .i64 (B2p l t:Nat)))
        have HK4:=Lib.hid (HK3.out.thenB (show Below w.heap.size W2 (W2.setCell ⟨w.heap.size,k*4+2,none⟩ (.int .i64 (B2p l t:Nat)))from(Below.refl _ _).setCell (Nat.le_refl w.heap.size) _))
        clear pt pr fr lr j0 j1 j2 j3 j4 j5 j6 HS3 HK3 HR3 HA3;go_roundg (j-(k+1))
        case measure=>omega
        case rel=>exact⟨k+1,by omega,rfl,by go_num,Lib.hid (by rw[HSN.out];exact HS4.out),HK4,HR4,HA4⟩
       ·have d1:decide (nn<(j:Int))=false:=decide_eq_false h1;have hib:inB l nn=false:=by rw[HIB.out];exact decide_eq_false (fun h=>h1 h.2)
        rw[hib]at HSN HBR
        have HBS:=Lib.hid (HST.out (by rw[HBR.out,if_neg (fun h=>by cases h.2)]))
        clear hib HBR HIB h0 h1
        go_wp2_with fail
        refine(HNN.out false).mono ?_;rintro e W2 ⟨rfl,hs2,hk2⟩;have HS3:=Lib.hid hs2;have HK3:=Lib.hid (HK2.out.trans hk2);have HR3:=Lib.hid (HR2.out.keepL hk2)
        have HA3:=Lib.hid (HA2.out.keepL hk2);clear hs2 hk2 HS2 HK2 HR2 HA2 HXC HNN j0 j1 j2 j3 j4 j5 j6 d0 d1
        go_wp2_with fail
        go_roundg (j-(k+1))
        case measure=>omega
        case rel=>exact⟨k+1,by omega,rfl,by go_num,Lib.hid (by rw[HSN.out];exact HS3.out),HK3,Lib.hid (by rw[HBS.out];exact HR3.out),HA3⟩
      ·have d0:decide (0≤nn)=false:=decide_eq_false h0;have hib:inB l nn=false:=by rw[HIB.out];exact decide_eq_false (fun h=>h0 h.1)
       rw[hib]at HSN HBR
       have HBS:=Lib.hid (HST.out (by rw[HBR.out,if_neg (fun h=>by cases h.2)]))
       clear hib HBR HIB h0
       go_wp2_with fail
       refine(HNN.out false).mono ?_;rintro e W2 ⟨rfl,hs2,hk2⟩;have HS3:=Lib.hid hs2;have HK3:=Lib.hid (HK2.out.trans hk2);have HR3:=Lib.hid (HR2.out.keepL hk2)
       have HA3:=Lib.hid (HA2.out.keepL hk2);clear hs2 hk2 HS2 HK2 HR2 HA2 HXC HNN j0 j1 j2 j3 j4 j5 j6 d0
       go_wp2_with fail
       go_roundg (j-(k+1))
       case measure=>omega
       case rel=>exact⟨k+1,by omega,rfl,by go_num,Lib.hid (by rw[HSN.out];exact HS3.out),HK3,Lib.hid (by rw[HBS.out];exact HR3.out),HA3⟩
     ·have e7:((f:Int) !=7)=true:=by
       have:¬(f:Int)=7:=by omega
       simp[this]
      rw[if_neg f7]at HSN;have HBS:=Lib.hid (HST.out (by rw[HBR.out,if_neg (fun h=>f7 h.1)]));clear f7 HBR HIB
      go_wp2_with fail
      refine(HFO.out W).mono ?_;rintro e W1 ⟨rfl,hb1⟩;have HS2:=Lib.hid (HS1.out.below hb1);have HK2:=Lib.hid (HK1.out.trans (A0x.of hb1));have HR2:=Lib.hid (HR1.out.below hb1)
      have HA2:=Lib.hid (HA1.out.below hb1);clear hb1 HS1 HK1 HR1 HA1 HXB HFO j0 j1 j2 j3 j4 j5 j6
      go_wp2_with fail
      go_roundg (j-(k+1))
      case measure=>omega
      case rel=>exact⟨k+1,by omega,rfl,by go_num,Lib.hid (by rw[HSN.out];exact HS2.out),HK2,Lib.hid (by rw[HBS.out];exact HR2.out),HA2⟩
    ·obtain rfl:k=j:=by omega
     have hfull:l.take k=l:=List.take_of_length_le (by rw[HLn.out];exact Nat.le_refl _);rw[hfull]at HS
     have HRB:=Lib.hid (show A5u wr w.heap.size (B2f l R) by
      have h:=HR.out;rw[←HNR.out,C7t l R (by rw[HNR.out,HLn.out])]at h;exact h)
     clear hlt HR hfull hk
     have HEN:=Lib.hid (show Calls Tryz.prog 123 #[.slice (some ⟨w.heap.size,0,none⟩) k k] wr (A6g (A4b (B2f l R)) wr)from C3u wr _ k k (B2f l R) (by
      have h:=HRB.out.ss;rw[show(B2f l R).length=k by unfold B2f;rw[List.length_map,List.length_zip,HNR.out,HLn.out,Nat.min_self]]at h;exact h) (by omega) HOK.out)
     generalize A4b (B2f l R)=ER at*;obtain⟨er,bs⟩:=ER;dsimp only at HFIN
     go_wp2_with fail
     refine HEN.out.mono ?_;rintro e W1 ⟨ba,bn,bc,rfl,hsl,hle,hb1,hoo⟩;have HNL:=Lib.hid (A0y W1 B g (s1.goes l l) (decide (er=0)) er (HS.out.below hb1));have HOO:=Lib.hid hoo
     have HSL:=Lib.hid hsl;have HLE:=Lib.hid hle;have HK1:=Lib.hid (HK.out.trans (A0x.of hb1));have HA1:=Lib.hid (HA.out.below hb1);obtain⟨be,hbe⟩:∃be,be=decide (er=0):=⟨_,rfl⟩
     have he0:(er==0)=be:=by rw[hbe,Bool.eq_iff_iff,beq_iff_eq,decide_eq_true_iff]
     rw[←hbe]at HNL HFIN;have hwx:w.heap.size≤wr.heap.size:=HK.out.size;clear hoo hsl hle hb1 HK HA HS HEN hbe HRB
     go_wp2_with fail
     refine HNL.out.mono ?_;rintro e W2 ⟨rfl,hs2,hk2⟩
     go_wp2_with fail
     go_ret2;rw[B7p,HFIN.out];exact⟨ba,bn,bc,w.heap.size+1,rfl,(HOO.out.keepL hk2).mono hwx,HOO.out.slK hk2 HSL.out,HLE.out,HA1.out.keepL hk2,by omega,hs2,HK1.out.trans hk2⟩
end
end Go.Proofs.YtclpkipaehpkdaaGreatDoor
