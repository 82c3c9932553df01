/- asm -/
import Derived.Test.YtclpkipaehpkdaaGreatDoorQ20AsmLowers
set_option linter.unusedVariables false
set_option linter.unusedSimpArgs false
set_option maxRecDepth 100000
set_option maxHeartbeats 64000000
namespace Go.Proofs.YtclpkipaehpkdaaGreatDoor
section
open Go.ChangeShapes Go.WideShapes Go.ChangeAt Go.RowKit
structure RmC(w W:World)(m:KM)(la:Option Addr)(ln:Nat)(L:List RW):Prop where
 m:W.heap[w.heap.size]? =some (.cells m.cells.toArray 65 (0,0))
 z:W.heap[w.heap.size+1]? =some (.cells z0M.cells.toArray A0w (0,0))
 rs:Rs W la ln L
 oo:B1p la ln (w.heap.size+1+1)
 b:Below w.heap.size w W
 gs:w.heap.size+1+1<W.heap.size
abbrev GM(w:World):Nat->Prop:=fun k=>k=w.heap.size+1+1
theorem RmC.mw{w W wr:World}{m:KM}{la:Option Addr}{ln:Nat}{L:List RW}(h:RmC w W m la ln L)(k:A0j (GM w) W wr):wr.heap[w.heap.size]? =some (.cells m.cells.toArray 65 (0,0)):=k.row h.m (by show ¬(_=_);omega)
theorem RmC.zw{w W wr:World}{m:KM}{la:Option Addr}{ln:Nat}{L:List RW}(h:RmC w W m la ln L)(k:A0j (GM w) W wr):wr.heap[w.heap.size+1]? =some (.cells z0M.cells.toArray A0w (0,0)):=k.row h.z (by show ¬(_=_);omega)
theorem RmC.rsw{w W wr:World}{m:KM}{la:Option Addr}{ln:Nat}{L:List RW}(h:RmC w W m la ln L)(k:A0j (GM w) W wr):Rs wr la ln L:=k.ss h.rs (fun hn b off e hp=>h.oo hn b off e hp)
theorem RmC.bw{w W wr:World}{m:KM}{la:Option Addr}{ln:Nat}{L:List RW}(h:RmC w W m la ln L)(k:A0j (GM w) W wr):Below w.heap.size w wr:=k.below h.b nlz (fun x hx=>by have hx':x=w.heap.size+1+1:=hx;omega)
structure RmJ(w W wr:World)(x:UM):Prop where
 k:A0j (GM w) W wr
 o:wr.heap[w.heap.size+1+1]? =some (.cells x.cells.toArray A0w (0,0))
 w:x.Own wr W.heap.size
theorem RmJ.below{w W wr w9:World}{x:UM}(h:RmJ w W wr x)(hb:Below wr.heap.size wr w9):RmJ w W w9 x:=
 ⟨h.k.trans (A0j.of hb),A0c h.o hb,h.w.keepP (A0j.of (p:=fun _=>False) hb) (fun _ hx=>hx.elim)⟩
theorem RmJ.app{w W wr w9:World}{x x':UM}{e:TypeId}(h:RmJ w W wr x)(hB:A0j (fun k=>W.heap.size<=k) wr w9)(ht:A3a e wr w9)(hw:x'.Own w9 W.heap.size)(hgo:w.heap.size+1+1<W.heap.size)(hme:A0w≠e:=by decide):
  A0j (GM w) W w9/\w9.heap[w.heap.size+1+1]? =some (.cells x.cells.toArray A0w (0,0))/\∀(o:Nat) (v:Value),x'.cells.toArray=x.cells.toArray.setIfInBounds o v->RmJ w W (w9.setCell ⟨w.heap.size+1+1,o,none⟩ v) x':=by
 have hk9:=h.k.new hB;have ho9:=ht.2 _ _ _ _ h.o hme;refine⟨hk9,ho9,fun o v hc=> ?_⟩;have hs:A0j (GM w) w9 (w9.setCell ⟨w.heap.size+1+1,o,none⟩ v):=A0j.set (A0j.refl (GM w) w9) (.inl rfl) o v
 refine⟨hk9.trans hs,?_,hw.keepP hs (fun y hy=> .inl (by have hy':y=w.heap.size+1+1:=hy;omega))⟩;have:=A1e ho9 o v;rw[hc];exact this
structure RmB(w wx:World)(m:KM)(x:UM):Prop where
 m:wx.heap[w.heap.size]? =some (.cells m.cells.toArray 65 (0,0))
 z:wx.heap[w.heap.size+1]? =some (.cells z0M.cells.toArray A0w (0,0))
 o:wx.heap[w.heap.size+1+1]? =some (.cells x.cells.toArray A0w (0,0))
 b:Below w.heap.size w wx
theorem RmB.below{w wx w9:World}{m:KM}{x:UM}(h:RmB w wx m x)(hb:Below wx.heap.size wx w9):RmB w w9 m x:=⟨A0c h.m hb,A0c h.z hb,A0c h.o hb,h.b.trans (hb.mono h.b.size)⟩
def D6c(K:List KV)(m:KM)(w:World)(e:Ending)(w':World):Prop:=
 ∃(x:UM) (ok:Bool),e= .returned (.tuple #[.agg x.cells.toArray,.bool ok])/\ok=A9r K m/\(ok=true->x.p=B1g K m/\x.Own w' w.heap.size)/\Below w.heap.size w w'
theorem A1x{w wr:World}(hb:Below w.heap.size w wr){g:Nat}(hg:w.heap.size<=g)(cs:Array Value):Below w.heap.size w (wr.setRow g cs):=
 (A0j.setrow (A0j.refl (fun k=>k=g) wr) (.inl rfl) cs).below hb nlz (fun k hk=>by omega)
def QM(s b o1 o2:Nat)(m:KM)(nm ds:List UInt8)(w:World):Prop:=w.heap[s]? =some (.cells m.cells.toArray 65 (0,0))/\w.cell? ⟨b,o1,none⟩=some (.string ⟨nm.toArray⟩)/\w.cell? ⟨b,o2,none⟩=some (.string ⟨ds.toArray⟩)
theorem QM.of{w wx:World}{b o1 o2:Nat}{m:KM}{nm ds:List UInt8}(hm:wx.heap[w.heap.size]? =some (.cells m.cells.toArray 65 (0,0)))(hb:Below w.heap.size w wx)(k1:w.cell? ⟨b,o1,none⟩=some (.string ⟨nm.toArray⟩))(k2:w.cell? ⟨b,o2,none⟩=some (.string ⟨ds.toArray⟩)):QM w.heap.size b o1 o2 m nm ds wx:=⟨hm,A0e hb k1,A0e hb k2⟩
theorem B9f{L:List RW}(h:C1n L)(cn:Nat)(p:Int):decide (A5s L p<0)= !plC L cn p false/\(plC L cn p false=true->A5s L p=((plV L cn p false:Nat):Int)):=by
 unfold plC plV;rw[if_neg (by simp)]
 rcases h.first p with⟨k,_,h1,h2⟩|⟨h1,h2⟩
 ·rw[h1,h2];exact⟨by simp<;>omega,fun _=>rfl⟩
 rw[h1,h2]
 exact⟨rfl,fun hh=>by cases hh⟩
theorem E2z{L:List RW}(h:C1n L)(cn:Nat)(p:Int):decide ((if p=(cn:Int)then(L.length:Int)else A5s L p)<0)= !plC L cn p true/\(plC L cn p true=true->(if p=(cn:Int)then(L.length:Int)else A5s L p)=((plV L cn p true:Nat):Int)):=by
 by_cases hp:p=(cn:Int)
 ·rw[if_pos hp];unfold plC plV;rw[if_pos ⟨rfl,hp⟩,decide_eq_true hp];exact⟨by simp<;>omega,fun _=>rfl⟩
 rw[if_neg hp];unfold plC plV;rw[if_neg (fun hh=>hp hh.2),decide_eq_false hp]
 rcases h.first p with⟨k,_,h1,h2⟩|⟨h1,h2⟩
 ·rw[h1,h2];exact⟨by simp<;>omega,fun _=>rfl⟩
 rw[h1,h2]
 exact⟨rfl,fun hh=>by cases hh⟩
theorem D1q{K:List KV}{zn:Nat}{l:List KS}{w w':World}{e:Ending}(h:D7n K zn l w e w'):∃(oa:Option Addr) (on oc:Nat) (a:Bool),e= .returned (.tuple #[.slice oa on oc,.bool a])/\a=l.all (A5u K)/\(a=true->on=zn/\w'.ownsRow w.heap.size 9 1 (.slice oa on oc) on ((l.map (A1w K)).map A6r))/\Below w.heap.size w w':=by
 obtain⟨hb,⟨h1,h2⟩|⟨h1,oa,oc,h2,h3⟩⟩:=h
 ·exact⟨none,0,0,false,h2,h1.symm,(fun h=>by cases h),hb⟩
 exact⟨oa,zn,oc,true,h2,h1.symm,fun _=>⟨rfl,h3⟩,hb⟩
theorem D4k{K:List KV}{m:KM}{NM DS:List UInt8}{de:Int}{L:List RW}(h1:A1k K m.nm=NM)(h2:A1k K m.ds=DS)(h3:A1y m.code=(de,L)):
  A9r K m=((A7d NM&&A3k DS)&&(decide (de=0)&&(L.all (B5y K)&&(m.traps.all (A9m K L m.cn)&&m.maps.all (C2i K L m.cn))))):=by
 unfold A9r;rw[h1,h2,h3]
theorem D3j(w:World)(a:Option Addr)(n cap:Nat)(K:List KV)(m:KM)(hs:Ks w a n K)(hn:n<=65536)(htx:∀i:Int,(kAt K i).s.length<=65536)(hst:D9b K)(hm:m.Rd w)(hok:A3h K m=true):
  Calls Tryz.prog 29 #[.slice a n cap,.agg #[.int .i64 m.fl,.int .i64 m.nm,.int .i64 m.ds,.int .i64 m.st,.int .i64 m.lo,.slice m.ca m.cn m.cc,.slice m.ta m.tn m.tc,.slice m.ma m.mn m.mc]] w (D6c K m w):=by
 have HKS:=hzz hs;have HNN:=hzz hn;have HTX:=hzz htx;have HST:=hzz hst;have HM:=hzz hm;obtain⟨q1,q2,q3,q4,q5,q6⟩:=B3x hok hm;unfold A3b at q6;simp only[Bool.and_eq_true]at q6
 obtain⟨⟨-,t1⟩,t2⟩:=q6;obtain⟨n0,n1,n2⟩:=A5a t1;obtain⟨d0,d1,d2⟩:=A5a t2;obtain⟨sb,hsb⟩:=exz (decide (m.fl=8))
 have esb:(m.fl==8)=sb:=by rw[hsb,Bool.eq_iff_iff,beq_iff_eq,decide_eq_true_iff]
 obtain⟨NM,hNM⟩:∃NM,NM=(kAt K m.nm).s:=⟨_,rfl⟩;obtain⟨DS,hDS⟩:∃DS,DS=(kAt K m.ds).s:=⟨_,rfl⟩;have HN1:=hzz (show A1k K m.nm=NM by unfold A1k;rw[t1,if_pos rfl,hNM])
 have HN2:=hzz (show A1k K m.ds=DS by unfold A1k;rw[t2,if_pos rfl,hDS]);have HNL:=hzz (show NM.length<=65536 by rw[hNM];exact htx _)
 have HDL:=hzz (show DS.length<=65536 by rw[hDS];exact htx _);have hnl:m.nm<n:=by have:=hs.1;omega
 have hdl:m.ds<n:=by have:=hs.1;omega
 have hn0:0<=m.nm:=by omega
 have hd0:0<=m.ds:=by omega
 have hn9:m.nm<1048576:=by omega
 have hd9:m.ds<1048576:=by omega
 have HSB:=hzz hsb;have HQ1:=hzz q1;have HQ2:=hzz q2;have HQ3:=hzz q3;have HQ4:=hzz q4;have HQ5:=hzz q5
 have hb2:Below w.heap.size w ((w.alloc (.cells #[.int .i64 m.fl,.int .i64 m.nm,.int .i64 m.ds,.int .i64 m.st,.int .i64 m.lo,.slice m.ca m.cn m.cc,.slice m.ta m.tn m.tc,.slice m.ma m.mn m.mc] 65)).alloc (.cells #[.bool false,.string ⟨#[]⟩,.string ⟨#[]⟩,.int .i64 0,.int .i64 0,.slice none 0 0,.slice none 0 0,.slice none 0 0] A0w)):=((Below.refl w.heap.size w).alloc nlz _).alloc (by simp) _
 have HB2:=hzz hb2
 have HX1:=hzz (show((w.alloc (.cells #[.int .i64 m.fl,.int .i64 m.nm,.int .i64 m.ds,.int .i64 m.st,.int .i64 m.lo,.slice m.ca m.cn m.cc,.slice m.ta m.tn m.tc,.slice m.ma m.mn m.mc] 65)).alloc (.cells #[.bool false,.string ⟨#[]⟩,.string ⟨#[]⟩,.int .i64 0,.int .i64 0,.slice none 0 0,.slice none 0 0,.slice none 0 0] A0w)).heap[w.heap.size]? =some (.cells m.cells.toArray 65 (0,0)) by
  rw[Below.heap_alloc _ _ _ (by simp)];exact heap_alloc_last w _)
 have HX2:=hzz (show((w.alloc (.cells #[.int .i64 m.fl,.int .i64 m.nm,.int .i64 m.ds,.int .i64 m.st,.int .i64 m.lo,.slice m.ca m.cn m.cc,.slice m.ta m.tn m.tc,.slice m.ma m.mn m.mc] 65)).alloc (.cells #[.bool false,.string ⟨#[]⟩,.string ⟨#[]⟩,.int .i64 0,.int .i64 0,.slice none 0 0,.slice none 0 0,.slice none 0 0] A0w)).heap[w.heap.size+1]? =some (.cells z0M.cells.toArray A0w (0,0)) by
  have:=heap_alloc_last (w.alloc (.cells #[.int .i64 m.fl,.int .i64 m.nm,.int .i64 m.ds,.int .i64 m.st,.int .i64 m.lo,.slice m.ca m.cn m.cc,.slice m.ta m.tn m.tc,.slice m.ma m.mn m.mc] 65)) (.cells #[.bool false,.string ⟨#[]⟩,.string ⟨#[]⟩,.int .i64 0,.int .i64 0,.slice none 0 0,.slice none 0 0,.slice none 0 0] A0w)
  have h2:((w.alloc (.cells #[.int .i64 m.fl,.int .i64 m.nm,.int .i64 m.ds,.int .i64 m.st,.int .i64 m.lo,.slice m.ca m.cn m.cc,.slice m.ta m.tn m.tc,.slice m.ma m.mn m.mc] 65)).alloc (.cells #[.bool false,.string ⟨#[]⟩,.string ⟨#[]⟩,.int .i64 0,.int .i64 0,.slice none 0 0,.slice none 0 0,.slice none 0 0] A0w)).heap[w.heap.size+1]? =some (.cells #[.bool false,.string ⟨#[]⟩,.string ⟨#[]⟩,.int .i64 0,.int .i64 0,.slice none 0 0,.slice none 0 0,.slice none 0 0] A0w):=by simpa using this
  exact h2)
 have HSZ:=hzz (show((w.alloc (.cells #[.int .i64 m.fl,.int .i64 m.nm,.int .i64 m.ds,.int .i64 m.st,.int .i64 m.lo,.slice m.ca m.cn m.cc,.slice m.ta m.tn m.tc,.slice m.ma m.mn m.mc] 65)).alloc (.cells #[.bool false,.string ⟨#[]⟩,.string ⟨#[]⟩,.int .i64 0,.int .i64 0,.slice none 0 0,.slice none 0 0,.slice none 0 0] A0w)).heap.size=w.heap.size+1+1 by simp)
 clear hm hok hsb t1 t2 n0 n1 n2 d0 d1 d2 htx hst hb2 q1 q2 q3 q4 q5;obtain⟨b,off,rfl,hbl,-,-,-,-,k1⟩:=hs.at m.nm.toNat (by omega);obtain⟨b',off',e1,-,-,-,-,-,k2⟩:=hs.at m.ds.toNat (by omega)
 cases e1
 have e1:((m.nm.toNat:Nat):Int)=m.nm:=Int.toNat_of_nonneg (by omega);have e2:((m.ds.toNat:Nat):Int)=m.ds:=Int.toNat_of_nonneg (by omega);rw[e1,<-hNM]at k1;rw[e2,<-hDS]at k2
 have HKA:=hzz k1;have HKB:=hzz k2;clear e1 e2 hNM hDS hs hn k1 k2;go_enter Tryz.func29,Tryz.ntmps29
 go_upto_region 1 with fail
 have HD0:=hzz ((Below.refl ((w.alloc (.cells #[.int .i64 m.fl,.int .i64 m.nm,.int .i64 m.ds,.int .i64 m.st,.int .i64 m.lo,.slice m.ca m.cn m.cc,.slice m.ta m.tn m.tc,.slice m.ma m.mn m.mc] 65)).alloc (.cells #[.bool false,.string ⟨#[]⟩,.string ⟨#[]⟩,.int .i64 0,.int .i64 0,.slice none 0 0,.slice none 0 0,.slice none 0 0] A0w)).heap.size ((w.alloc (.cells #[.int .i64 m.fl,.int .i64 m.nm,.int .i64 m.ds,.int .i64 m.st,.int .i64 m.lo,.slice m.ca m.cn m.cc,.slice m.ta m.tn m.tc,.slice m.ma m.mn m.mc] 65)).alloc (.cells #[.bool false,.string ⟨#[]⟩,.string ⟨#[]⟩,.int .i64 0,.int .i64 0,.slice none 0 0,.slice none 0 0,.slice none 0 0] A0w))).drew)
 have HBD:=btz HB2 HD0.out;have HY1:=hzz (A0c HX1.out HD0.out);have HY2:=hzz (A0c HX2.out HD0.out)
 have HYZ:=hzz (show((w.alloc (.cells #[.int .i64 m.fl,.int .i64 m.nm,.int .i64 m.ds,.int .i64 m.st,.int .i64 m.lo,.slice m.ca m.cn m.cc,.slice m.ta m.tn m.tc,.slice m.ma m.mn m.mc] 65)).alloc (.cells #[.bool false,.string ⟨#[]⟩,.string ⟨#[]⟩,.int .i64 0,.int .i64 0,.slice none 0 0,.slice none 0 0,.slice none 0 0] A0w)).drew.heap.size=w.heap.size+1+1 from HSZ.out)
 refine A0g (QM w.heap.size b (off+m.nm.toNat*5+4) (off+m.ds.toNat*5+4) m NM DS) (.of [(0,true),(1,true),(2,true),(3,true),(4,true),(5,true),(6,true),(7,true),(8,true),(9,true),(10,true),(11,true),(12,true),(13,true),(14,true),(15,true),(16,true),(17,true),(18,true),(19,true),(20,false),(21,false)] (.stir [])) (by kernel_rfl) (by kernel_rfl) (fun c a d v w h=>by cases d<;>exact h) ?_
 clear HD0 HB2 HX1 HX2 HSZ
 generalize((w.alloc (.cells #[.int .i64 m.fl,.int .i64 m.nm,.int .i64 m.ds,.int .i64 m.st,.int .i64 m.lo,.slice m.ca m.cn m.cc,.slice m.ta m.tn m.tc,.slice m.ma m.mn m.mc] 65)).alloc (.cells #[.bool false,.string ⟨#[]⟩,.string ⟨#[]⟩,.int .i64 0,.int .i64 0,.slice none 0 0,.slice none 0 0,.slice none 0 0] A0w)).drew=V0 at*
 have hSw:QM w.heap.size b (off+m.nm.toNat*5+4) (off+m.ds.toNat*5+4) m NM DS V0:=QM.of HY1.out HBD.out HKA.out HKB.out
 have l0:=fun z (h:QM w.heap.size b (off+m.nm.toNat*5+4) (off+m.ds.toNat*5+4) m NM DS z)=>A0a h.1 0 rfl
 have l1:=fun z (h:QM w.heap.size b (off+m.nm.toNat*5+4) (off+m.ds.toNat*5+4) m NM DS z)=>A0a h.1 1 rfl
 have l2:=fun z (h:QM w.heap.size b (off+m.nm.toNat*5+4) (off+m.ds.toNat*5+4) m NM DS z)=>A0a h.1 2 rfl
 have l3:=fun z (h:QM w.heap.size b (off+m.nm.toNat*5+4) (off+m.ds.toNat*5+4) m NM DS z)=>A0a h.1 3 rfl
 have l4:=fun z (h:QM w.heap.size b (off+m.nm.toNat*5+4) (off+m.ds.toNat*5+4) m NM DS z)=>A0a h.1 4 rfl
 have l5:=fun z (h:QM w.heap.size b (off+m.nm.toNat*5+4) (off+m.ds.toNat*5+4) m NM DS z)=>h.2.1
 have l6:=fun z (h:QM w.heap.size b (off+m.nm.toNat*5+4) (off+m.ds.toNat*5+4) m NM DS z)=>h.2.2
 dsimp only[KM.cells]at l0 l1 l2 l3 l4
 iterate 20
  refine A0b fun K hK=>tkF ?_
  go_simp
  try go_bits
  refine hK _ _ ?_;clear hK K
 refine A0b fun K hK=>alF ?_
 go_step;have hal:=A0f V0 (.cells #[.bool false,.string ⟨#[]⟩,.string ⟨#[]⟩,.int .i64 0,.int .i64 0,.slice none 0 0,.slice none 0 0,.slice none 0 0] A0w)
 have HAO:=hzz (show(V0.alloc (.cells #[.bool false,.string ⟨#[]⟩,.string ⟨#[]⟩,.int .i64 0,.int .i64 0,.slice none 0 0,.slice none 0 0,.slice none 0 0] A0w)).heap[w.heap.size+1+1]? =some (.cells z0M.cells.toArray A0w (0,0)) by
  have:=heap_alloc_last V0 (.cells #[.bool false,.string ⟨#[]⟩,.string ⟨#[]⟩,.int .i64 0,.int .i64 0,.slice none 0 0,.slice none 0 0,.slice none 0 0] A0w);rw[HYZ.out]at this;exact this)
 have HAB:=btz HBD hal;have HA1:=hzz (A0c HY1.out hal);have HA2:=hzz (A0c HY2.out hal);refine⟨QM.of HA1.out HAB.out HKA.out HKB.out,hK _ _ ?_⟩;clear hK K hal hSw HBD HY1 HY2
 generalize hV1:V0.alloc (.cells #[.bool false,.string ⟨#[]⟩,.string ⟨#[]⟩,.int .i64 0,.int .i64 0,.slice none 0 0,.slice none 0 0,.slice none 0 0] A0w)=V1 at*;clear hV1
 refine A0b fun K hK=>alF ?_
 refine wp_store_row A0w _ _ rfl V0.heap.size (UM.cells (⟨sb,NM,DS,m.st,m.lo,none,0,0,[],none,0,0,[],none,0,0,[]⟩:UM)).toArray rfl rfl A0w z0M.cells.toArray (by rw[HYZ.out];exact HAO.out) A1c rfl (C0i _) ?_
 rw[HYZ.out]
 have HMB:=hzz (show RmB w (V1.setRow (w.heap.size+1+1) (UM.cells (⟨sb,NM,DS,m.st,m.lo,none,0,0,[],none,0,0,[],none,0,0,[]⟩:UM)).toArray) m (⟨sb,NM,DS,m.st,m.lo,none,0,0,[],none,0,0,[],none,0,0,[]⟩:UM)from⟨by rw[setRow_other _ _ _ _ (by omega)];exact HA1.out,by rw[setRow_other _ _ _ _ (by omega)];exact HA2.out,setRow_heap _ _ _ _ _ _ HAO.out,A1x HAB.out (by omega) _⟩)
 have hSn:QM w.heap.size b (off+m.nm.toNat*5+4) (off+m.ds.toNat*5+4) m NM DS (V1.setRow (w.heap.size+1+1) (UM.cells (⟨sb,NM,DS,m.st,m.lo,none,0,0,[],none,0,0,[],none,0,0,[]⟩:UM)).toArray):=QM.of HMB.out.m HMB.out.b HKA.out HKB.out
 refine⟨hSn,hK _ _ ?_⟩;clear hK K HAO HAB HA1 HA2 HYZ;generalize V1.setRow (w.heap.size+1+1) (UM.cells (⟨sb,NM,DS,m.st,m.lo,none,0,0,[],none,0,0,[],none,0,0,[]⟩:UM)).toArray=V2 at*
 refine A0k (fun y=>y=V2) (fun y hy=>hy▸hSn) rfl ?_;refine A0n (fun y hy=> ?_);obtain rfl:V2=y:=Eq.symm hy;clear hSn l0 l1 l2 l3 l4 l5 l6 hy hn9 hd9 hn0 hd0 hnl hdl esb
 have HRD:=hzz (HM.out.below HMB.out.b);have hcn9:m.cn<=65536:=by have:=HQ1.out;omega
 have c5:=A0a HMB.out.m 5 rfl;dsimp only[KM.cells]at c5;have HDC:=hzz (B6y V2 m.ca m.cn m.cc m.code HRD.out.code hcn9 HRD.out.cle)
 obtain⟨de,L,hR⟩:∃de L,A1y m.code=(de,L):=⟨_,_,rfl⟩;rw[hR]at HDC;have HR:=hzz hR;have HMC:=hzz (D4k HN1.out HN2.out hR);clear hR
 go_wp2_with fail
 refine HDC.out.mono ?_;rintro e w3 ⟨v,ln,rfl,how,hwf,hb3⟩;obtain⟨la,lc,rfl,hrs,hle⟩:=Ss.ofOwn RW.cells_length (by decide) how;have HM3:=hzz (HMB.out.below hb3)
 have HC:=hzz (show RmC w w3 m la ln L from⟨HM3.out.m,HM3.out.z,hrs,B8x how (A0v HMB.out.o),HM3.out.b,A0v HM3.out.o⟩)
 have HJ:=hzz (show RmJ w w3 w3 (⟨sb,NM,DS,m.st,m.lo,none,0,0,[],none,0,0,[],none,0,0,[]⟩:UM)from⟨A0j.refl _ _,HM3.out.o,⟨World.ownsRow_nil _ _ _ _,World.ownsRow_nil _ _ _ _,World.ownsRow_nil _ _ _ _,fun p hp=>by cases hp⟩⟩)
 have HWF:=hzz hwf
 have hln:ln<=65536:=by
  have h1:L.length=ln:=hrs.1;have h2:=B4v m.code;rw[HR.out]at h2;dsimp only at h2;have h3:=HRD.out.code.1;have h4:=HQ1.out;omega
 have HLN:=hzz hln;clear hle how hwf hb3 hrs HDC c5 hln HRD hcn9 HM3 HMB;by_cases hde:de=0
 case neg=>
  have e8:(de !=0)=true:=by simp[hde]
  have HDF:=hzz (show decide (de=0)=false from decide_eq_false hde);clear hde;have HZW:=hzz (HC.out.zw HJ.out.k)
  go_upto_region 4 with fail
  refine wp_region_lit ?_;refine A0i rfl _ _ rfl _ rfl _ _ _ _ HJ.out.o Tryz.underlying59 rfl A1c ?_;refine wpList_store_row rfl _ _ _ rfl _ _ rfl rfl _ _ HZW.out A1c rfl (C0i _) ?_
  go_wp2_with fail
  refine bodyPost_ret (A0d rfl _ _ (w.heap.size+1) A0w (UM.cells _).toArray (0,0) _ rfl (setRow_heap _ _ _ _ _ _ HZW.out) Tryz.underlying59 rfl A1c) rfl ?_
  exact⟨_,false,rfl,(by rw[HMC.out,HDF.out];simp),(fun h=>absurd h (by decide)),A1x (HC.out.bw HJ.out.k) (by omega) _⟩
 subst hde;have HI1:=hzz (A9b w3 NM HNL.out);have HI2:=hzz (B1z w3 DS HDL.out);obtain⟨b1,hb1⟩:=exz (A7d NM);obtain⟨b2,hb2⟩:=exz (A3k DS);rw[<-hb1]at HI1 HMC
 rw[<-hb2]at HI2 HMC;clear hb1 hb2;have o1:=A0a HJ.out.o 1 rfl;have o2:=A0a HJ.out.o 2 rfl;dsimp only[UM.cells]at o1 o2
 go_wp2_with fail
 refine HI1.out.mono ?_;rintro e w4 ⟨rfl,hw4⟩;obtain rfl:w3=w4:=Eq.symm hw4
 cases b1
 ·have HZW:=hzz (HC.out.zw HJ.out.k)
  go_upto_region 4 with fail
  refine wp_region_lit ?_;refine A0i rfl _ _ rfl _ rfl _ _ _ _ HJ.out.o Tryz.underlying59 rfl A1c ?_;refine wpList_store_row rfl _ _ _ rfl _ _ rfl rfl _ _ HZW.out A1c rfl (C0i _) ?_
  go_wp2_with fail
  refine bodyPost_ret (A0d rfl _ _ (w.heap.size+1) A0w (UM.cells _).toArray (0,0) _ rfl (setRow_heap _ _ _ _ _ _ HZW.out) Tryz.underlying59 rfl A1c) rfl ?_
  exact⟨_,false,rfl,(by rw[HMC.out];simp),(fun h=>absurd h (by decide)),A1x (HC.out.bw HJ.out.k) (by omega) _⟩
 go_wp2_with fail
 refine HI2.out.mono ?_;rintro e w4 ⟨rfl,hb4⟩;have HJ4:=hzz (HJ.out.below hb4);clear hb4 HJ HI1 HI2 o1 o2
 cases b2
 ·have HZW:=hzz (HC.out.zw HJ4.out.k)
  go_upto_region 4 with fail
  refine wp_region_lit ?_;refine A0i rfl _ _ rfl _ rfl _ _ _ _ HJ4.out.o Tryz.underlying59 rfl A1c ?_;refine wpList_store_row rfl _ _ _ rfl _ _ rfl rfl _ _ HZW.out A1c rfl (C0i _) ?_
  go_wp2_with fail
  refine bodyPost_ret (A0d rfl _ _ (w.heap.size+1) A0w (UM.cells _).toArray (0,0) _ rfl (setRow_heap _ _ _ _ _ _ HZW.out) Tryz.underlying59 rfl A1c) rfl ?_
  exact⟨_,false,rfl,(by rw[HMC.out];simp),(fun h=>absurd h (by decide)),A1x (HC.out.bw HJ4.out.k) (by omega) _⟩
 have HPI:=hzz (D1i HR.out);have HIX:=hzz (E2e HR.out);have HF0:=hzz (D7i HR.out);have HFA:=hzz (fun r hr hf=>C1q m.code r (by rw[HR.out];exact hr) hf)
 have hgs:w.heap.size+1+1<w3.heap.size:=HC.out.gs
 go_wp2_with fail
 go_loopg [64] ln (fun gn i wr=>∃(j:Nat) (x:UM),j<=ln/\gn=ln-j/\i= .int .i64 j/\Hid ((L.take j).all (B5y K)=true)/\Hid (x.p=⟨sb,NM,DS,m.st,m.lo,none,0,0,(L.take j).map (B1a K L),none,0,0,[],none,0,0,[]⟩)/\Hid (RmJ w w3 wr x))
 case atStart=>exact⟨0,_,by omega,by omega,by go_num,hzz (by simp),hzz rfl,HJ4⟩
 clear HJ4;obtain⟨j,x,hj,rfl,rfl,HE,HX,HJ⟩:=hrel;by_cases hlt:j<ln
 ·have hlj:x.code.length=j:=by
   have h1:=congrArg (fun u=>u.code.length) HX.out;have h2:=HC.out.rs.1;simp only[UM.p,List.length_map,List.length_take]at h1;omega
  have hcn:x.cn=j:=by
   obtain⟨a9,c9,e9,h9,_⟩:=Ss.ofOwn IN.cells_length (by decide) HJ.out.w.code
   cases e9
   rw[<-hlj];exact h9.1.symm
  have hjn:ln<=65536:=HLN.out;have HCN:=hzz hcn;have HS:=hzz (HC.out.rsw HJ.out.k);have hj1:(j:Int)<ln:=by omega
  obtain⟨bq,ofq,r,hbq,hbl,hs,q⟩:=HS.out.getC j hlt;have q0:=q 0 (by omega);have q1:=q 1 (by omega);have q2:=q 2 (by omega);have q3:=q 3 (by omega);rw[Nat.add_zero]at q0
  simp only[RW.cells,List.getElem?_cons_zero,List.getElem?_cons_succ]at q0 q1 q2 q3
  have HTK:=hzz (show L.take (j+1)=L.take j++[r] by
   have hjl:=(gsz hs).1;rw[List.take_succ_eq_append_getElem hjl,(gsz hs).2])
  have HRM:=hzz (List.mem_of_getElem? hs);have HBQ:=hzz hbq;subst hbq;clear hs q hlt HS hlj hcn
  go_upto_region 8 with fail
  have hb8:=A0f wr (.cells #[.int .i64 r.pos,.int .u8 (r.op:Nat),.int .i64 r.a,.int .i64 r.b] 118);have HJ8:=hzz (HJ.out.below hb8)
  have HGR:=hzz (heap_alloc_last wr (.cells #[.int .i64 r.pos,.int .u8 (r.op:Nat),.int .i64 r.a,.int .i64 r.b] 118));clear hb8 HJ q0 q1 q2 q3 hbl;generalize wr.alloc _=w8 at*
  generalize wr.heap.size=gr at*;have p0:=A0a HGR.out 0 rfl;have p1:=A0a HGR.out 1 rfl;have p2:=A0a HGR.out 2 rfl;have p3:=A0a HGR.out 3 rfl
  have HIN:=hzz (D5e w8 (some ⟨b,off,none⟩) n cap K (some ⟨bq,ofq,none⟩) ln lc L r (HKS.out.below (HC.out.bw HJ8.out.k)) HNN.out HTX.out HST.out (HC.out.rsw HJ8.out.k) HLN.out (HIX.out r HRM.out) (HWF.out r HRM.out).2.2 (HF0.out r HRM.out) (HFA.out r HRM.out))
  go_wp2_with fail
  refine HIN.out.mono ?_;rintro e w9 ⟨y,ok,rfl,hok,hy,hb9⟩;obtain⟨vop,vn,vm,vcl,vnm,vds,vtx⟩:=y;have HJ9:=hzz (HJ8.out.below hb9);have HK9:=hzz hok;have HY9:=hzz hy
  clear hok hy hb9 HJ8 HIN HGR p0 p1 p2 p3;dsimp only[IN.cells]
  go_upto_region 9 with fail
  have hal:=A0f w9 (.cells #[.int .u8 (vop:Nat),.int .i64 vn,.int .i64 vm,.string ⟨vcl.toArray⟩,.string ⟨vnm.toArray⟩,.string ⟨vds.toArray⟩,.string ⟨vtx.toArray⟩] A1v)
  have HJ8:=hzz (HJ9.out.below hal)
  have HGX:=hzz (heap_alloc_last w9 (.cells #[.int .u8 (vop:Nat),.int .i64 vn,.int .i64 vm,.string ⟨vcl.toArray⟩,.string ⟨vnm.toArray⟩,.string ⟨vds.toArray⟩,.string ⟨vtx.toArray⟩] A1v));clear hal HJ9
  generalize w9.alloc _=wc at*;generalize w9.heap.size=gx at*
  cases ok
  ·have HLF:=hzz (show L.all (B5y K)=false by
    rw[List.all_eq_false];exact⟨r,HRM.out,by rw[<-HK9.out];decide⟩)
   have HZW:=hzz (HC.out.zw HJ8.out.k)
   go_upto_region 10 with fail
   refine wp_region_lit ?_;refine A0i rfl _ _ rfl _ rfl _ _ _ _ HJ8.out.o Tryz.underlying59 rfl A1c ?_;refine wpList_store_row rfl _ _ _ rfl _ _ rfl rfl _ _ HZW.out A1c rfl (C0i _) ?_
   go_wp2_with fail
   refine bodyPost_ret (A0d rfl _ _ (w.heap.size+1) A0w (UM.cells _).toArray (0,0) _ rfl (setRow_heap _ _ _ _ _ _ HZW.out) Tryz.underlying59 rfl A1c) rfl ?_
   exact⟨_,false,rfl,(by rw[HMC.out,HLF.out];simp),(fun h=>absurd h (by decide)),A1x (HC.out.bw HJ8.out.k) (by omega) _⟩
  have z0:=A0a HGX.out 0 rfl;have z1:=A0a HGX.out 1 rfl;have z2:=A0a HGX.out 2 rfl;have z3:=A0a HGX.out 3 rfl;have z4:=A0a HGX.out 4 rfl;have z5:=A0a HGX.out 5 rfl
  have z6:=A0a HGX.out 6 rfl;have o5:=A0a HJ8.out.o 5 rfl;dsimp only[UM.cells]at o5;have hcl:x.cn<=65536:=by rw[HCN.out];omega
  go_wp2_with (at_builtin;refine A0r E0v rfl _ _ rfl w3.heap.size _ x.cn _ rfl HJ8.out.w.code _ 1 _ _ rfl rfl rfl rfl (by omega) (by unfold maxLen;omega) HJ8.out.k.size ?_;intro v9 w9 hown9 hg9 hb9;have hk9:=A3a.app HJ8.out.w.code hg9;have hown8:w9.ownsRow w3.heap.size A1v 7 v9 (x.cn+1) ((x.code++[(⟨vop,vn,vm,vcl,vnm,vds,vtx⟩:IN)]).flatMap IN.cells):=(by rw[List.flatMap_append];exact hown9);obtain⟨a9,c9,rfl,-,-⟩:=Ss.ofOwn IN.cells_length (by decide) hown8;have hB9:A0j (fun k=>w3.heap.size<=k) wc w9:=A0j.ofB hb9 (Nat.le_trans (by simp) hg9.size);have HJ9:=hzz (HJ8.out.app hB9 hk9 (HJ8.out.w.code1 hk9 hown8) HC.out.gs);have fo:=A1b HJ9.out.2.1 5;have lto:=A0v HJ9.out.2.1;have co:=A0a HJ9.out.2.1 5 rfl;dsimp only[UM.cells]at co;clear hown9 hown8 hg9 hb9 hk9 hB9)
  have HJ10:=HJ9.out.2.2 5 (.slice a9 (x.cn+1) c9) rfl;have HX10:=hzz (UM.p_code1 HX.out a9 (x.cn+1) c9 (⟨vop,vn,vm,vcl,vnm,vds,vtx⟩:IN));have HJ11:=hzz HJ10
  have HX11:=hzz (show UM.p {x with ca:=a9,cn:=x.cn+1,cc:=c9,code:=x.code++[(⟨vop,vn,vm,vcl,vnm,vds,vtx⟩:IN)]}=⟨sb,NM,DS,m.st,m.lo,none,0,0,(L.take (j+1)).map (B1a K L),none,0,0,[],none,0,0,[]⟩ by
   rw[HX10.out,HTK.out,List.map_append,List.map_singleton,<-HY9.out (by trivial)])
  have HE11:=hzz (show(L.take (j+1)).all (B5y K)=true by
   rw[HTK.out,List.all_append,HE.out];simp[<-HK9.out])
  clear HJ10 HX10 HJ9 HX HE HJ8 HGX HK9 HY9 fo lto co z0 z1 z2 z3 z4 z5 z6 o5;go_roundg (ln-(j+1))
  case measure=>omega
  exact⟨j+1,_,by omega,rfl,by go_num,HE11,HX11,HJ11⟩
 obtain rfl:ln=j:=by omega
 have hfull:L.take ln=L:=List.take_of_length_le (by rw[HC.out.rs.1];exact Nat.le_refl _);rw[hfull]at HE HX;clear hlt;have c6:=A0a (HC.out.mw HJ.out.k) 6 rfl;dsimp only[KM.cells]at c6
 go_wp2_with fail
 go_loopg [88] m.tn (fun gn i wr2=>∃(jt:Nat) (x5:UM),jt<=m.tn/\gn=m.tn-jt/\i= .int .i64 jt/\Hid ((m.traps.take jt).all (A9m K L m.cn)=true)/\Hid (x5.p=⟨sb,NM,DS,m.st,m.lo,none,0,0,L.map (B1a K L),none,0,0,(m.traps.take jt).map (A9n K L m.cn),none,0,0,[]⟩)/\Hid (RmJ w w3 wr2 x5))
 case atStart=>exact⟨0,x,by omega,by omega,by go_num,hzz (by simp),hzz (by rw[HX.out];rfl),HJ⟩
 clear HJ HX c6;obtain⟨jt,x5,hj5,rfl,rfl,HE5,HX5,HJ5⟩:=hrel;by_cases hlt:jt<m.tn
 ·have hlj:x5.traps.length=jt:=by
   have h1:=congrArg (fun u=>u.traps.length) HX5.out;have h2:=HM.out.traps.1;simp only[UM.p,List.length_map,List.length_take]at h1;omega
  have hcn:x5.tn=jt:=by
   obtain⟨a9,c9,e9,h9,_⟩:=Ss.ofOwn UT.cells_length (by decide) HJ5.out.w.traps
   cases e9
   rw[<-hlj];exact h9.1.symm
  have HCN:=hzz hcn;have HS:=hzz (HM.out.below (HC.out.bw HJ5.out.k)).traps;have hj1:(jt:Int)<m.tn:=by omega
  have htn:=HQ2.out;obtain⟨bq,ofq,t,hbq,hbl,hs,q⟩:=HS.out.getC jt hlt;have q0:=q 0 (by omega);have q1:=q 1 (by omega);have q2:=q 2 (by omega);have q3:=q 3 (by omega);rw[Nat.add_zero]at q0
  simp only[KT.cells,List.getElem?_cons_zero,List.getElem?_cons_succ]at q0 q1 q2 q3
  have HTK:=hzz (show m.traps.take (jt+1)=m.traps.take jt++[t] by
   have hjl:=(gsz hs).1;rw[List.take_succ_eq_append_getElem hjl,(gsz hs).2])
  have HTM:=hzz (List.mem_of_getElem? hs);clear hs q hlt HS hlj hcn
  go_upto_region 16 with fail
  have hb6:=A0f wr (.cells #[.int .i64 t.fr,.int .i64 t.tt,.int .i64 t.pl,.int .i64 t.cl] 123);have HJ6:=hzz (HJ5.out.below hb6)
  have HGT:=hzz (show(wr.alloc (.cells #[.int .i64 t.fr,.int .i64 t.tt,.int .i64 t.pl,.int .i64 t.cl] 123)).heap[wr.heap.size]? =some (.cells t.cells.toArray 123 (0,0))from heap_alloc_last wr (.cells #[.int .i64 t.fr,.int .i64 t.tt,.int .i64 t.pl,.int .i64 t.cl] 123))
  clear hb6 HJ5 q0 q1 q2 q3 hbq hbl;generalize wr.alloc _=w6 at*;generalize wr.heap.size=gt at*;obtain⟨d1,u1⟩:=B9f HPI.out m.cn t.fr;obtain⟨d2,u2⟩:=E2z HPI.out m.cn t.tt
  obtain⟨d3,u3⟩:=B9f HPI.out m.cn t.pl;have HP1:=hzz (fun V hl=>A8j V la ln lc L t.fr hl HLN.out);have HP2:=hzz (fun V hl=>A8j V la ln lc L t.tt hl HLN.out)
  have HP3:=hzz (fun V hl=>A8j V la ln lc L t.pl hl HLN.out)
  have HTV:=hzz (show A9n K L m.cn t=⟨(plV L m.cn t.fr false:Nat),(plV L m.cn t.tt true:Nat),(plV L m.cn t.pl false:Nat),if t.cl=0 then []else(A0s K t.cl).1⟩from rfl)
  have HTC:=hzz (show A9m K L m.cn t=(plC L m.cn t.fr false&&(plC L m.cn t.tt true&&(plC L m.cn t.pl false&&(decide (t.cl=0)||aclsB K t.cl false))))from rfl);have HLL:=hzz HC.out.rs.1
  have HE2:∃v2e:Int,v2e=(if t.tt=(m.cn:Int)then(L.length:Int)else A5s L t.tt):=⟨_,rfl⟩
  obtain⟨v2e,hv2e⟩:=HE2;rw[<-hv2e]at d2 u2;have HV2E:=hzz hv2e;clear hv2e;generalize plC L m.cn t.fr false=c1 at*;generalize plC L m.cn t.tt true=c2 at*;generalize plC L m.cn t.pl false=c3 at*
  generalize plV L m.cn t.fr false=y1 at*;generalize plV L m.cn t.tt true=y2 at*;generalize plV L m.cn t.pl false=y3 at*;generalize A5s L t.fr=v1 at*;generalize A5s L t.tt=v2 at*
  generalize A5s L t.pl=v3 at*;have HU:=hzz (And.intro u1 (And.intro u2 u3));have HD:=hzz (And.intro d1 (And.intro d2 d3));clear u1 u2 u3 d1 d2 d3
  go_cut [15] (fun s15 wx=>∃gx:Nat,s15= .pointer (some ⟨gx,0,none⟩)/\w6.heap.size<=gx/\Hid (Below w6.heap.size w6 wx)/\Hid (wx.heap[gx]? =some (.cells (UT.cells ⟨v1,v2,v3,[]⟩).toArray 85 (0,0))))
  case first=>
   have HRS:=hzz (HC.out.rsw HJ6.out.k);have HB0:=hzz (show Below w6.heap.size w6 w6.drew from(Below.refl w6.heap.size w6).drew);have hSw:Q15 gt t w6.drew:=HGT.out
   have l0:=fun z (h:Q15 gt t z)=>A0a h 0 rfl
   have l1:=fun z (h:Q15 gt t z)=>A0a h 1 rfl
   have l2:=fun z (h:Q15 gt t z)=>A0a h 2 rfl
   dsimp only[KT.cells]at l0 l1 l2
   refine A0g (Q15 gt t) (.of [(0,true),(1,true),(2,true),(4,true),(5,true),(6,true),(8,true),(9,true),(10,true)] (.fork 3 (.fork 7 (.fork 11 (.of [(12,true),(13,false),(14,false)] (.stir [])) 13 (.of [(11,false),(12,true),(14,false)] (.stir []))) 13 (.of [(7,false),(11,false),(12,true),(14,false)] (.stir []))) 13 (.of [(3,false),(7,false),(11,false),(12,true),(14,false)] (.stir [])))) (by kernel_rfl) (by kernel_rfl) (fun c a d v w h=>by cases d<;>exact h) ?_
   obtain⟨V0,hV0⟩:∃V,V=w6.drew:=⟨_,rfl⟩;rw[<-hV0]at HB0 hSw⊢;clear hV0
   iterate 9
    refine A0b fun K hK=>tkF ?_
    go_simp
    try go_bits
    refine hK _ _ ?_;clear hK K
   refine A3g ?_ ?_
   ·intro K hK;refine alF ?_;go_step;refine(HP1.out V0 (HRS.out.below HB0.out)).mono ?_;rintro e V1 ⟨rfl,hb⟩;have hSn:Q15 gt t V1:=A0c hSw hb;have HB1:=btz HB0 hb;clear hb hSw HB0
    have hSw:=hSn;clear hSn;go_simp
    first|refine⟨hSw,hK _ _ ?_⟩|refine hK _ _ ?_
    clear hK K;refine A3g ?_ ?_
    ·intro K hK;refine alF ?_;go_step;refine(HP2.out V1 (HRS.out.below HB1.out)).mono ?_;rintro e V2 ⟨rfl,hb⟩;have hSn:Q15 gt t V2:=A0c hSw hb;have HB2:=btz HB1 hb;clear hb hSw HB1
     have hSw:=hSn;clear hSn;go_simp
     first|refine⟨hSw,hK _ _ ?_⟩|refine hK _ _ ?_
     clear hK K;refine A3g ?_ ?_
     ·intro K hK;refine alF ?_;go_step;refine(HP3.out V2 (HRS.out.below HB2.out)).mono ?_;rintro e V3 ⟨rfl,hb⟩;have hSn:Q15 gt t V3:=A0c hSw hb;have HB3:=btz HB2 hb;clear hb hSw HB2
      have hSw:=hSn;clear hSn;go_simp
      first|refine⟨hSw,hK _ _ ?_⟩|refine hK _ _ ?_
      clear hK K
      iterate 1
       refine A0b fun K hK=>tkF ?_
       go_simp
       try go_bits
       refine hK _ _ ?_;clear hK K
      refine A0b fun K hK=>alF ?_
      go_step;have hal:=A0f V3 (.cells #[.int .i64 0,.int .i64 0,.int .i64 0,.string ⟨#[]⟩] 85)
      have hSn:Q15 gt t (V3.alloc (.cells #[.int .i64 0,.int .i64 0,.int .i64 0,.string ⟨#[]⟩] 85)):=A0c hSw hal;refine⟨hSn,hK _ _ ?_⟩;clear hK K hSw;have hSw:=hSn
      have HG:=hzz (heap_alloc_last V3 (.cells #[.int .i64 0,.int .i64 0,.int .i64 0,.string ⟨#[]⟩] 85));have hgx:w6.heap.size<=V3.heap.size:=HB3.out.size;have HB4:=btz HB3 hal
      clear hSn hal HB3;generalize V3.alloc _=V4 at*;generalize V3.heap.size=gx at*;refine A0b fun K hK=>alF ?_
      refine wp_store_row 85 _ _ rfl gx (UT.cells ⟨v1,v2,v3,[]⟩).toArray rfl rfl 85 (UT.cells ⟨0,0,0,[]⟩).toArray HG.out A7v rfl (D8d _) ?_
      have HBZ:=hzz (A1x HB4.out hgx (UT.cells ⟨v1,v2,v3,[]⟩).toArray);have HZZ:=hzz (setRow_heap V4 gx _ (UT.cells ⟨v1,v2,v3,[]⟩).toArray _ _ HG.out)
      have hSn:Q15 gt t (V4.setRow gx (UT.cells ⟨v1,v2,v3,[]⟩).toArray):=A0c HGT.out HBZ.out;refine⟨hSn,hK _ _ ?_⟩;clear hK K HG hSw
      generalize V4.setRow gx (UT.cells ⟨v1,v2,v3,[]⟩).toArray=VZ at*;refine A0k (fun y=>y=VZ) (fun y hy=>hy▸hSn) rfl ?_;refine A0n (fun y hy=> ?_)
      obtain rfl:VZ=y:=Eq.symm hy;clear hSn
      go_wp2_with fail
      go_meet;exact⟨gx,rfl,hgx,HBZ,HZZ⟩
     intro K hK;refine alF ?_;go_step;have hal:=A0f V2 (.cells #[.int .i64 0,.int .i64 0,.int .i64 0,.string ⟨#[]⟩] 85)
     have hSn:Q15 gt t (V2.alloc (.cells #[.int .i64 0,.int .i64 0,.int .i64 0,.string ⟨#[]⟩] 85)):=A0c hSw hal;refine⟨hSn,hK _ _ ?_⟩;clear hK K hSw;have hSw:=hSn
     have HG:=hzz (heap_alloc_last V2 (.cells #[.int .i64 0,.int .i64 0,.int .i64 0,.string ⟨#[]⟩] 85));have hgx:w6.heap.size<=V2.heap.size:=HB2.out.size;have HB3:=btz HB2 hal
     clear hSn hal HB2;generalize V2.alloc _=V3 at*;generalize V2.heap.size=gx at*;refine A0b fun K hK=>alF ?_
     go_step;refine(HP3.out V3 (HRS.out.below HB3.out)).mono ?_;rintro e V4 ⟨rfl,hb⟩;have hSn:Q15 gt t V4:=A0c hSw hb;replace HG:=hzz (A0c HG.out hb);have HB4:=btz HB3 hb
     clear hb hSw HB3;have hSw:=hSn;clear hSn;go_simp
     first|refine⟨hSw,hK _ _ ?_⟩|refine hK _ _ ?_
     clear hK K
     iterate 1
      refine A0b fun K hK=>tkF ?_
      go_simp
      try go_bits
      refine hK _ _ ?_;clear hK K
     refine A0b fun K hK=>alF ?_
     refine wp_store_row 85 _ _ rfl gx (UT.cells ⟨v1,v2,v3,[]⟩).toArray rfl rfl 85 (UT.cells ⟨0,0,0,[]⟩).toArray HG.out A7v rfl (D8d _) ?_
     have HBZ:=hzz (A1x HB4.out hgx (UT.cells ⟨v1,v2,v3,[]⟩).toArray);have HZZ:=hzz (setRow_heap V4 gx _ (UT.cells ⟨v1,v2,v3,[]⟩).toArray _ _ HG.out)
     have hSn:Q15 gt t (V4.setRow gx (UT.cells ⟨v1,v2,v3,[]⟩).toArray):=A0c HGT.out HBZ.out;refine⟨hSn,hK _ _ ?_⟩;clear hK K HG hSw
     generalize V4.setRow gx (UT.cells ⟨v1,v2,v3,[]⟩).toArray=VZ at*;refine A0k (fun y=>y=VZ) (fun y hy=>hy▸hSn) rfl ?_;refine A0n (fun y hy=> ?_)
     obtain rfl:VZ=y:=Eq.symm hy;clear hSn
     go_wp2_with fail
     go_meet;exact⟨gx,rfl,hgx,HBZ,HZZ⟩
    intro K hK;refine alF ?_;go_step;have hal:=A0f V1 (.cells #[.int .i64 0,.int .i64 0,.int .i64 0,.string ⟨#[]⟩] 85)
    have hSn:Q15 gt t (V1.alloc (.cells #[.int .i64 0,.int .i64 0,.int .i64 0,.string ⟨#[]⟩] 85)):=A0c hSw hal;refine⟨hSn,hK _ _ ?_⟩;clear hK K hSw;have hSw:=hSn
    have HG:=hzz (heap_alloc_last V1 (.cells #[.int .i64 0,.int .i64 0,.int .i64 0,.string ⟨#[]⟩] 85));have hgx:w6.heap.size<=V1.heap.size:=HB1.out.size;have HB2:=btz HB1 hal;clear hSn hal HB1
    generalize V1.alloc _=V2 at*;generalize V1.heap.size=gx at*;refine A0b fun K hK=>alF ?_
    go_step;refine(HP2.out V2 (HRS.out.below HB2.out)).mono ?_;rintro e V3 ⟨rfl,hb⟩;have hSn:Q15 gt t V3:=A0c hSw hb;replace HG:=hzz (A0c HG.out hb);have HB3:=btz HB2 hb
    clear hb hSw HB2;have hSw:=hSn;clear hSn;go_simp
    first|refine⟨hSw,hK _ _ ?_⟩|refine hK _ _ ?_
    clear hK K;refine A0b fun K hK=>alF ?_
    go_step;refine(HP3.out V3 (HRS.out.below HB3.out)).mono ?_;rintro e V4 ⟨rfl,hb⟩;have hSn:Q15 gt t V4:=A0c hSw hb;replace HG:=hzz (A0c HG.out hb);have HB4:=btz HB3 hb
    clear hb hSw HB3;have hSw:=hSn;clear hSn;go_simp
    first|refine⟨hSw,hK _ _ ?_⟩|refine hK _ _ ?_
    clear hK K
    iterate 1
     refine A0b fun K hK=>tkF ?_
     go_simp
     try go_bits
     refine hK _ _ ?_;clear hK K
    refine A0b fun K hK=>alF ?_
    refine wp_store_row 85 _ _ rfl gx (UT.cells ⟨v1,v2,v3,[]⟩).toArray rfl rfl 85 (UT.cells ⟨0,0,0,[]⟩).toArray HG.out A7v rfl (D8d _) ?_
    have HBZ:=hzz (A1x HB4.out hgx (UT.cells ⟨v1,v2,v3,[]⟩).toArray);have HZZ:=hzz (setRow_heap V4 gx _ (UT.cells ⟨v1,v2,v3,[]⟩).toArray _ _ HG.out)
    have hSn:Q15 gt t (V4.setRow gx (UT.cells ⟨v1,v2,v3,[]⟩).toArray):=A0c HGT.out HBZ.out;refine⟨hSn,hK _ _ ?_⟩;clear hK K HG hSw
    generalize V4.setRow gx (UT.cells ⟨v1,v2,v3,[]⟩).toArray=VZ at*;refine A0k (fun y=>y=VZ) (fun y hy=>hy▸hSn) rfl ?_;refine A0n (fun y hy=> ?_);obtain rfl:VZ=y:=Eq.symm hy
    clear hSn
    go_wp2_with fail
    go_meet;exact⟨gx,rfl,hgx,HBZ,HZZ⟩
   intro K hK;refine alF ?_;go_step;have hal:=A0f V0 (.cells #[.int .i64 0,.int .i64 0,.int .i64 0,.string ⟨#[]⟩] 85)
   have hSn:Q15 gt t (V0.alloc (.cells #[.int .i64 0,.int .i64 0,.int .i64 0,.string ⟨#[]⟩] 85)):=A0c hSw hal;refine⟨hSn,hK _ _ ?_⟩;clear hK K hSw;have hSw:=hSn
   have HG:=hzz (heap_alloc_last V0 (.cells #[.int .i64 0,.int .i64 0,.int .i64 0,.string ⟨#[]⟩] 85));have hgx:w6.heap.size<=V0.heap.size:=HB0.out.size;have HB1:=btz HB0 hal;clear hSn hal HB0
   generalize V0.alloc _=V1 at*;generalize V0.heap.size=gx at*;refine A0b fun K hK=>alF ?_
   go_step;refine(HP1.out V1 (HRS.out.below HB1.out)).mono ?_;rintro e V2 ⟨rfl,hb⟩;have hSn:Q15 gt t V2:=A0c hSw hb;replace HG:=hzz (A0c HG.out hb);have HB2:=btz HB1 hb
   clear hb hSw HB1;have hSw:=hSn;clear hSn;go_simp
   first|refine⟨hSw,hK _ _ ?_⟩|refine hK _ _ ?_
   clear hK K;refine A0b fun K hK=>alF ?_
   go_step;refine(HP2.out V2 (HRS.out.below HB2.out)).mono ?_;rintro e V3 ⟨rfl,hb⟩;have hSn:Q15 gt t V3:=A0c hSw hb;replace HG:=hzz (A0c HG.out hb);have HB3:=btz HB2 hb
   clear hb hSw HB2;have hSw:=hSn;clear hSn;go_simp
   first|refine⟨hSw,hK _ _ ?_⟩|refine hK _ _ ?_
   clear hK K;refine A0b fun K hK=>alF ?_
   go_step;refine(HP3.out V3 (HRS.out.below HB3.out)).mono ?_;rintro e V4 ⟨rfl,hb⟩;have hSn:Q15 gt t V4:=A0c hSw hb;replace HG:=hzz (A0c HG.out hb);have HB4:=btz HB3 hb
   clear hb hSw HB3;have hSw:=hSn;clear hSn;go_simp
   first|refine⟨hSw,hK _ _ ?_⟩|refine hK _ _ ?_
   clear hK K
   iterate 1
    refine A0b fun K hK=>tkF ?_
    go_simp
    try go_bits
    refine hK _ _ ?_;clear hK K
   refine A0b fun K hK=>alF ?_
   refine wp_store_row 85 _ _ rfl gx (UT.cells ⟨v1,v2,v3,[]⟩).toArray rfl rfl 85 (UT.cells ⟨0,0,0,[]⟩).toArray HG.out A7v rfl (D8d _) ?_
   have HBZ:=hzz (A1x HB4.out hgx (UT.cells ⟨v1,v2,v3,[]⟩).toArray);have HZZ:=hzz (setRow_heap V4 gx _ (UT.cells ⟨v1,v2,v3,[]⟩).toArray _ _ HG.out)
   have hSn:Q15 gt t (V4.setRow gx (UT.cells ⟨v1,v2,v3,[]⟩).toArray):=A0c HGT.out HBZ.out;refine⟨hSn,hK _ _ ?_⟩;clear hK K HG hSw
   generalize V4.setRow gx (UT.cells ⟨v1,v2,v3,[]⟩).toArray=VZ at*;refine A0k (fun y=>y=VZ) (fun y hy=>hy▸hSn) rfl ?_;refine A0n (fun y hy=> ?_);obtain rfl:VZ=y:=Eq.symm hy
   clear hSn
   go_wp2_with fail
   go_meet;exact⟨gx,rfl,hgx,HBZ,HZZ⟩
  obtain⟨gx,rfl,hgx,HB7,HZ7⟩:=hcut;clear HP1 HP2 HP3;have HT7:=hzz (A0c HGT.out HB7.out);have ct1:=A0a HT7.out 1 rfl;have HJ7:=hzz (HJ6.out.below HB7.out)
  have c5:=A0a (HC.out.mw HJ7.out.k) 5 rfl;dsimp only[KT.cells,KM.cells]at ct1 c5
  go_upto_if 110 with fail
  go_cut [] (fun wx=>Hid (Below w6.heap.size w6 wx)/\Hid (wx.heap[gx]? =some (.cells (UT.cells ⟨v1,v2e,v3,[]⟩).toArray 85 (0,0))))
  case first=>
   by_cases h0:t.tt=(m.cn:Int)
   ·have e0:(t.tt==(m.cn:Int))=true:=by simp[h0]
    have HVE:=hzz (HV2E.out.trans (if_pos h0));rw[HLL.out]at HVE;clear h0;have f1:=A1b HZ7.out 1;have z1:=A0a HZ7.out 1 rfl;have lz:=A0v HZ7.out;dsimp only[UT.cells]at z1
    go_wp2_with fail
    go_meet;exact⟨hzz (HB7.out.setCell (p:=⟨gx,1,none⟩) hgx _),hzz (by rw[HVE.out];exact A1e HZ7.out 1 _)⟩
   have e0:(t.tt==(m.cn:Int))=false:=by simp[h0]
   have HVE:=hzz (HV2E.out.trans (if_neg h0));clear h0
   go_wp2_with fail
   go_meet;exact⟨HB7,hzz (by rw[HVE.out];exact HZ7.out)⟩
  clear HB7 HZ7 HT7 HJ7 ct1 c5;obtain⟨HB7,HZ7⟩:=hcut;have HT7:=hzz (A0c HGT.out HB7.out);have ct3:=A0a HT7.out 3 rfl;dsimp only[KT.cells]at ct3
  go_upto_if 116 with fail
  obtain⟨cl,hcl⟩:=exz (if t.cl=0 then []else(A0s K t.cl).1)
  have HCLV:=hzz hcl;clear hcl
  go_cut [] (fun wx=>Hid (Below w6.heap.size w6 wx)/\Hid (wx.heap[gx]? =some (.cells (UT.cells ⟨v1,v2e,v3,cl⟩).toArray 85 (0,0))))
  case first=>
   by_cases h0:t.cl=0
   ·have e0:(t.cl !=0)=false:=by simp[h0]
    have HVE:=hzz (HCLV.out.trans (if_pos h0));clear h0
    go_wp2_with fail
    go_meet;exact⟨HB7,hzz (by rw[HVE.out];exact HZ7.out)⟩
   have e0:(t.cl !=0)=true:=by simp[h0]
   have HVE:=hzz (HCLV.out.trans (if_neg h0));clear h0;have HCL:=hzz (A4y wc (some ⟨b,off,none⟩) n cap K t.cl (HKS.out.below (HC.out.bw (HJ6.out.below HB7.out).k)) HNN.out)
   unfold A4f at HCL;rw[<-HVE.out]at HCL;generalize(A0s K t.cl).2=cb at*
   go_wp2_with fail
   refine HCL.out.mono ?_;rintro e w8 ⟨rfl,hw8⟩;obtain rfl:wc=w8:=hw8;have f3:=A1b HZ7.out 3;have z3:=A0a HZ7.out 3 rfl;have lz:=A0v HZ7.out;dsimp only[UT.cells]at z3
   go_wp2_with fail
   go_meet;exact⟨hzz (HB7.out.setCell (p:=⟨gx,3,none⟩) hgx _),hzz (A1e HZ7.out 3 _)⟩
  clear HB7 HZ7 HT7 ct3;obtain⟨HB7,HZ7⟩:=hcut;have HT7:=hzz (A0c HGT.out HB7.out);have ct3:=A0a HT7.out 3 rfl;have HJ8:=hzz (HJ6.out.below HB7.out);have z0:=A0a HZ7.out 0 rfl
  have z1:=A0a HZ7.out 1 rfl;have z2:=A0a HZ7.out 2 rfl;have z3:=A0a HZ7.out 3 rfl;dsimp only[KT.cells,UT.cells]at ct3 z0 z1 z2 z3;obtain⟨d1,d2,d3⟩:=HD.out
  have HBF:=hzz (show ∀h:A9m K L m.cn t=false,m.traps.all (A9m K L m.cn)=false from fun h=>by
   rw[List.all_eq_false];exact⟨t,HTM.out,by rw[h];decide⟩)
  cases c1
  ·have HFF:=hzz (HBF.out (by rw[HTC.out];rfl));have HZW:=hzz (HC.out.zw HJ8.out.k)
   go_upto_region 22 with fail
   refine wp_region_lit ?_;refine A0i rfl _ _ rfl _ rfl _ _ _ _ HJ8.out.o Tryz.underlying59 rfl A1c ?_;refine wpList_store_row rfl _ _ _ rfl _ _ rfl rfl _ _ HZW.out A1c rfl (C0i _) ?_
   go_wp2_with fail
   refine bodyPost_ret (A0d rfl _ _ (w.heap.size+1) A0w (UM.cells _).toArray (0,0) _ rfl (setRow_heap _ _ _ _ _ _ HZW.out) Tryz.underlying59 rfl A1c) rfl ?_
   exact⟨_,false,rfl,(by rw[HMC.out,HFF.out];simp),(fun h=>absurd h (by decide)),A1x (HC.out.bw HJ8.out.k) (by omega) _⟩
  cases c2
  ·have HFF:=hzz (HBF.out (by rw[HTC.out];rfl));have HZW:=hzz (HC.out.zw HJ8.out.k)
   go_upto_region 22 with fail
   refine wp_region_lit ?_;refine A0i rfl _ _ rfl _ rfl _ _ _ _ HJ8.out.o Tryz.underlying59 rfl A1c ?_;refine wpList_store_row rfl _ _ _ rfl _ _ rfl rfl _ _ HZW.out A1c rfl (C0i _) ?_
   go_wp2_with fail
   refine bodyPost_ret (A0d rfl _ _ (w.heap.size+1) A0w (UM.cells _).toArray (0,0) _ rfl (setRow_heap _ _ _ _ _ _ HZW.out) Tryz.underlying59 rfl A1c) rfl ?_
   exact⟨_,false,rfl,(by rw[HMC.out,HFF.out];simp),(fun h=>absurd h (by decide)),A1x (HC.out.bw HJ8.out.k) (by omega) _⟩
  cases c3
  ·have HFF:=hzz (HBF.out (by rw[HTC.out];rfl));have HZW:=hzz (HC.out.zw HJ8.out.k)
   go_upto_region 22 with fail
   refine wp_region_lit ?_;refine A0i rfl _ _ rfl _ rfl _ _ _ _ HJ8.out.o Tryz.underlying59 rfl A1c ?_;refine wpList_store_row rfl _ _ _ rfl _ _ rfl rfl _ _ HZW.out A1c rfl (C0i _) ?_
   go_wp2_with fail
   refine bodyPost_ret (A0d rfl _ _ (w.heap.size+1) A0w (UM.cells _).toArray (0,0) _ rfl (setRow_heap _ _ _ _ _ _ HZW.out) Tryz.underlying59 rfl A1c) rfl ?_
   exact⟨_,false,rfl,(by rw[HMC.out,HFF.out];simp),(fun h=>absurd h (by decide)),A1x (HC.out.bw HJ8.out.k) (by omega) _⟩
  have HOK:Hid ((decide (t.cl=0)||aclsB K t.cl false)=(decide (t.cl=0)||classB cl)):=hzz (by
   by_cases h0:t.cl=0
   ·simp[h0]
   ·rw[B2q,HCLV.out,if_neg h0];simp)
  rw[HOK.out]at HTC
  have hcll:cl.length<=65536:=by
   rw[HCLV.out];split
   ·simp
   exact A4s HTX.out _
  have HIC:=hzz (A2y wc cl (by omega));by_cases h0:t.cl=0
  case pos=>
   have e0:(t.cl !=0)=false:=by simp[h0]
   have HTT:=hzz (show A9m K L m.cn t=true by rw[HTC.out,decide_eq_true h0];rfl);clear h0 HBF HTC HIC hcll;have o6:=A0a HJ8.out.o 6 rfl;dsimp only[UM.cells]at o6
   have hcl:x5.tn<=65536:=by have h1:=HCN.out;have h2:=HQ2.out;omega
   go_wp2_with (at_builtin;refine A0r D2b rfl _ _ rfl w3.heap.size _ x5.tn _ rfl HJ8.out.w.traps _ 1 _ _ rfl rfl rfl rfl (by omega) (by unfold maxLen;omega) HJ8.out.k.size ?_;intro v9 w9 hown9 hg9 hb9;have hk9:=A3a.app HJ8.out.w.traps hg9;have hown8:w9.ownsRow w3.heap.size 85 4 v9 (x5.tn+1) ((x5.traps++[(⟨v1,v2e,v3,cl⟩:UT)]).flatMap UT.cells):=(by rw[List.flatMap_append];exact hown9);obtain⟨a9,c9,rfl,-,-⟩:=Ss.ofOwn UT.cells_length (by decide) hown8;have hB9:A0j (fun k=>w3.heap.size<=k) wc w9:=A0j.ofB hb9 (Nat.le_trans (by simp) hg9.size);have HJ9:=hzz (HJ8.out.app hB9 hk9 (HJ8.out.w.traps1 hk9 hown8) HC.out.gs);have fo:=A1b HJ9.out.2.1 6;have lto:=A0v HJ9.out.2.1;have co:=A0a HJ9.out.2.1 6 rfl;dsimp only[UM.cells]at co;clear hown9 hown8 hg9 hb9 hk9 hB9)
   have HJ10:=HJ9.out.2.2 6 (.slice a9 (x5.tn+1) c9) rfl;have HX10:=hzz (UM.p_traps1 HX5.out a9 (x5.tn+1) c9 (⟨v1,v2e,v3,cl⟩:UT));have HJ11:=hzz HJ10
   have HX11:=hzz (show UM.p {x5 with ta:=a9,tn:=x5.tn+1,tc:=c9,traps:=x5.traps++[(⟨v1,v2e,v3,cl⟩:UT)]}=⟨sb,NM,DS,m.st,m.lo,none,0,0,L.map (B1a K L),none,0,0,(m.traps.take (jt+1)).map (A9n K L m.cn),none,0,0,[]⟩ by
    rw[HX10.out,HTK.out,List.map_append,List.map_singleton,HTV.out,<-HCLV.out,HU.out.1 (by trivial),HU.out.2.1 (by trivial),HU.out.2.2 (by trivial)])
   have HE11:=hzz (show(m.traps.take (jt+1)).all (A9m K L m.cn)=true by
    rw[HTK.out,List.all_append,HE5.out];simp[HTT.out])
   clear HJ10 HX10 HJ9 HX5 HE5 HJ8 HJ6 HZ7 HT7 HB7 HGT HTT fo lto co z0 z1 z2 z3 o6 ct3 d1 d2 d3 HTV HU HD;go_roundg (m.tn-(jt+1))
   case measure=>omega
   exact⟨jt+1,_,by omega,rfl,by go_num,HE11,HX11,HJ11⟩
  have e0:(t.cl !=0)=true:=by simp[h0]
  rw[decide_eq_false h0]at HTC;clear h0;generalize classB cl=bc at*
  go_wp2_with fail
  refine HIC.out.mono ?_;rintro e w9 ⟨rfl,hw9⟩;obtain rfl:wc=w9:=Eq.symm hw9
  cases bc
  ·have HFF:=hzz (HBF.out (by rw[HTC.out];rfl));have HZW:=hzz (HC.out.zw HJ8.out.k)
   go_upto_region 22 with fail
   refine wp_region_lit ?_;refine A0i rfl _ _ rfl _ rfl _ _ _ _ HJ8.out.o Tryz.underlying59 rfl A1c ?_;refine wpList_store_row rfl _ _ _ rfl _ _ rfl rfl _ _ HZW.out A1c rfl (C0i _) ?_
   go_wp2_with fail
   refine bodyPost_ret (A0d rfl _ _ (w.heap.size+1) A0w (UM.cells _).toArray (0,0) _ rfl (setRow_heap _ _ _ _ _ _ HZW.out) Tryz.underlying59 rfl A1c) rfl ?_
   exact⟨_,false,rfl,(by rw[HMC.out,HFF.out];simp),(fun h=>absurd h (by decide)),A1x (HC.out.bw HJ8.out.k) (by omega) _⟩
  have HTT:=hzz (show A9m K L m.cn t=true by rw[HTC.out];rfl);clear HBF HTC HIC hcll;have o6:=A0a HJ8.out.o 6 rfl;dsimp only[UM.cells]at o6
  have hcl:x5.tn<=65536:=by have h1:=HCN.out;have h2:=HQ2.out;omega
  go_wp2_with (at_builtin;refine A0r D2b rfl _ _ rfl w3.heap.size _ x5.tn _ rfl HJ8.out.w.traps _ 1 _ _ rfl rfl rfl rfl (by omega) (by unfold maxLen;omega) HJ8.out.k.size ?_;intro v9 w9 hown9 hg9 hb9;have hk9:=A3a.app HJ8.out.w.traps hg9;have hown8:w9.ownsRow w3.heap.size 85 4 v9 (x5.tn+1) ((x5.traps++[(⟨v1,v2e,v3,cl⟩:UT)]).flatMap UT.cells):=(by rw[List.flatMap_append];exact hown9);obtain⟨a9,c9,rfl,-,-⟩:=Ss.ofOwn UT.cells_length (by decide) hown8;have hB9:A0j (fun k=>w3.heap.size<=k) wc w9:=A0j.ofB hb9 (Nat.le_trans (by simp) hg9.size);have HJ9:=hzz (HJ8.out.app hB9 hk9 (HJ8.out.w.traps1 hk9 hown8) HC.out.gs);have fo:=A1b HJ9.out.2.1 6;have lto:=A0v HJ9.out.2.1;have co:=A0a HJ9.out.2.1 6 rfl;dsimp only[UM.cells]at co;clear hown9 hown8 hg9 hb9 hk9 hB9)
  have HJ10:=HJ9.out.2.2 6 (.slice a9 (x5.tn+1) c9) rfl;have HX10:=hzz (UM.p_traps1 HX5.out a9 (x5.tn+1) c9 (⟨v1,v2e,v3,cl⟩:UT));have HJ11:=hzz HJ10
  have HX11:=hzz (show UM.p {x5 with ta:=a9,tn:=x5.tn+1,tc:=c9,traps:=x5.traps++[(⟨v1,v2e,v3,cl⟩:UT)]}=⟨sb,NM,DS,m.st,m.lo,none,0,0,L.map (B1a K L),none,0,0,(m.traps.take (jt+1)).map (A9n K L m.cn),none,0,0,[]⟩ by
   rw[HX10.out,HTK.out,List.map_append,List.map_singleton,HTV.out,<-HCLV.out,HU.out.1 (by trivial),HU.out.2.1 (by trivial),HU.out.2.2 (by trivial)])
  have HE11:=hzz (show(m.traps.take (jt+1)).all (A9m K L m.cn)=true by
   rw[HTK.out,List.all_append,HE5.out];simp[HTT.out])
  clear HJ10 HX10 HJ9 HX5 HE5 HJ8 HJ6 HZ7 HT7 HB7 HGT HTT fo lto co z0 z1 z2 z3 o6 ct3 d1 d2 d3 HTV HU HD;go_roundg (m.tn-(jt+1))
  case measure=>omega
  exact⟨jt+1,_,by omega,rfl,by go_num,HE11,HX11,HJ11⟩
 have hje:jt=m.tn:=by omega
 have hfull:m.traps.take jt=m.traps:=List.take_of_length_le (by rw[HM.out.traps.1];omega);rw[hfull]at HE5 HX5;have hnl:¬((jt:Int)<m.tn):=by omega
 clear hje;have c7:=A0a (HC.out.mw HJ5.out.k) 7 rfl;dsimp only[KM.cells]at c7
 have HFV:=hzz (show B1g K m=⟨sb,NM,DS,m.st,m.lo,none,0,0,L.map (B1a K L),none,0,0,m.traps.map (A9n K L m.cn),none,0,0,m.maps.map (C9z K L m.cn)⟩ by
  unfold B1g;rw[HN1.out,HN2.out,HR.out,HSB.out])
 go_wp2_with fail
 go_loopg [160] m.mn (fun gn i wr3=>∃(jp:Nat) (x9:UM),jp<=m.mn/\gn=m.mn-jp/\i= .int .i64 jp/\Hid ((m.maps.take jp).all (C2i K L m.cn)=true)/\Hid (x9.p=⟨sb,NM,DS,m.st,m.lo,none,0,0,L.map (B1a K L),none,0,0,m.traps.map (A9n K L m.cn),none,0,0,(m.maps.take jp).map (C9z K L m.cn)⟩)/\Hid (RmJ w w3 wr3 x9))
 case atStart=>exact⟨0,x5,by omega,by omega,by go_num,hzz (by simp),hzz (by rw[HX5.out];rfl),HJ5⟩
 clear HJ5 HX5 c7;obtain⟨jp,x9,hj9,rfl,rfl,HE9,HX9,HJ9⟩:=hrel;by_cases hlt:jp<m.mn
 ·have hlj:x9.maps.length=jp:=by
   have h1:=congrArg (fun u=>u.maps.length) HX9.out;have h2:=HM.out.maps.1;simp only[UM.p,List.length_map,List.length_take]at h1;omega
  have hcn:x9.mn=jp:=by
   obtain⟨a9,c9,e9,h9,_⟩:=Ss.ofOwn UP.cells_length (by decide) HJ9.out.w.maps
   cases e9
   rw[<-hlj];exact h9.1.symm
  have HCN:=hzz hcn;have HS:=hzz (HM.out.below (HC.out.bw HJ9.out.k)).maps;have hj1:(jp:Int)<m.mn:=by omega
  have hmn:=HQ3.out;obtain⟨bq,ofq,p,hbq,hbl,hs,q⟩:=HS.out.getC jp hlt;have q0:=q 0 (by omega);have q1:=q 1 (by omega);have q2:=q 2 (by omega);rw[Nat.add_zero]at q0
  simp only[KP.cells,List.getElem?_cons_zero,List.getElem?_cons_succ]at q0 q1 q2
  have HTK:=hzz (show m.maps.take (jp+1)=m.maps.take jp++[p] by
   have hjl:=(gsz hs).1;rw[List.take_succ_eq_append_getElem hjl,(gsz hs).2])
  have HPM:=hzz (List.mem_of_getElem? hs);obtain⟨-,s1,s2,g1,g2⟩:=B4t (HQ5.out p HPM.out) (HM.out.each p HPM.out);have HG1:=hzz g1;have HG2:=hzz g2;clear hs q hlt HS hlj hcn g1 g2
  go_upto_region 28 with fail
  have hb6:=A0f wr (.cells #[.int .i64 p.pl,.slice p.la p.ln p.lc,.slice p.sa p.sn p.sc] 68);have HJ6:=hzz (HJ9.out.below hb6)
  have HGP:=hzz (show(wr.alloc (.cells #[.int .i64 p.pl,.slice p.la p.ln p.lc,.slice p.sa p.sn p.sc] 68)).heap[wr.heap.size]? =some (.cells p.cells.toArray 68 (0,0))from heap_alloc_last wr (.cells #[.int .i64 p.pl,.slice p.la p.ln p.lc,.slice p.sa p.sn p.sc] 68))
  clear hb6 HJ9 q0 q1 q2 hbq hbl;generalize wr.alloc _=w6 at*;generalize wr.heap.size=gp at*;obtain⟨d1,u1⟩:=B9f HPI.out m.cn p.pl
  have HP1:=hzz (A8j w6 la ln lc L p.pl (HC.out.rsw HJ6.out.k) HLN.out)
  have HTV:=hzz (show C9z K L m.cn p=⟨(plV L m.cn p.pl false:Nat),none,0,0,p.loc.map (A1w K),none,0,0,p.stk.map (A1w K)⟩from rfl)
  have HTC:=hzz (show C2i K L m.cn p=(plC L m.cn p.pl false&&(p.loc.all (A5u K)&&p.stk.all (A5u K)))from rfl);generalize plC L m.cn p.pl false=c1 at*;generalize plV L m.cn p.pl false=y1 at*
  generalize A5s L p.pl=ix at*;have HU:=hzz u1;have HD:=hzz d1;clear u1 d1;have p0:=A0a HGP.out 0 rfl;dsimp only[KP.cells]at p0
  go_wp2_with fail
  refine HP1.out.mono ?_;rintro e w7 ⟨rfl,hb7⟩;have HB7:=hzz hb7;clear hb7 HP1 p0
  go_upto_region 29 with fail
  have hal:=A0f w7 (.cells #[.int .i64 ix,.slice none 0 0,.slice none 0 0] 88);have HB8:=btz HB7 hal;have HGX:=hzz (heap_alloc_last w7 (.cells #[.int .i64 ix,.slice none 0 0,.slice none 0 0] 88))
  have hgx:w6.heap.size<=w7.heap.size:=HB7.out.size;clear hal HB7;generalize w7.alloc _=w8 at*;generalize w7.heap.size=gx at*;have HT8:=hzz (A0c HGP.out HB8.out)
  have HP8:=hzz ((HM.out.below (HC.out.bw (HJ6.out.below HB8.out).k)).each p HPM.out);have p1:=A0a HT8.out 1 rfl;dsimp only[KP.cells]at p1
  have HSL:=hzz (B7w w8 (some ⟨b,off,none⟩) n cap K p.la p.ln p.lc p.loc (HKS.out.below (HC.out.bw (HJ6.out.below HB8.out).k)) HNN.out HTX.out HP8.out.loc (by omega) HG1.out)
  go_wp2_with fail
  refine HSL.out.mono ?_;intro e w9 hr;obtain⟨oa,on,oc,a1,rfl,ha1,ho1,hb9⟩:=D1q hr;have HA1:=hzz ha1;have HO1:=hzz ho1;have HB9:=btz HB8 hb9;have HX9A:=hzz (A0c HGX.out hb9)
  have h89:w8.heap.size<=w9.heap.size:=hb9.size;have hg8:gx<w8.heap.size:=A0v HGX.out;clear hr ha1 ho1 hb9 HSL HT8 HP8 HB8 HGX p1;have f1:=A1b HX9A.out 1;have z1:=A0a HX9A.out 1 rfl
  have lz:=A0v HX9A.out
  go_upto_region 31 with fail
  have HBA:=hzz (HB9.out.setCell (p:=⟨gx,1,none⟩) hgx (.slice oa on oc));have HXA:=hzz (A1e HX9A.out 1 (.slice oa on oc))
  have HOA:=hzz (fun h=>A4j (HO1.out h).2 (A0j.set (A0j.refl (fun k=>k=gx) w9) (.inl rfl) 1 (.slice oa on oc)) (fun y hy=> .inl (by omega)))
  have hsA:(w9.setCell ⟨gx,1,none⟩ (.slice oa on oc)).heap.size=w9.heap.size:=by simp[World.setCell]
  have HSA:=hzz hsA;clear hsA f1 z1 lz HB9 HX9A;generalize w9.setCell ⟨gx,1,none⟩ (.slice oa on oc)=wA at*;have HTA:=hzz (A0c HGP.out HBA.out)
  have HPA:=hzz ((HM.out.below (HC.out.bw (HJ6.out.below HBA.out).k)).each p HPM.out);have p2:=A0a HTA.out 2 rfl;dsimp only[KP.cells]at p2
  have HSL:=hzz (B7w wA (some ⟨b,off,none⟩) n cap K p.sa p.sn p.sc p.stk (HKS.out.below (HC.out.bw (HJ6.out.below HBA.out).k)) HNN.out HTX.out HPA.out.stk (by omega) HG2.out)
  go_wp2_with fail
  refine HSL.out.mono ?_;intro e wB hr;obtain⟨ob,om,od,a2,rfl,ha2,ho2,hbB⟩:=D1q hr;have HA2:=hzz ha2;have HO2:=hzz ho2;have HBB:=btz HBA hbB;have HXB:=hzz (A0c HXA.out hbB)
  have HOB:=hzz (fun h=>A1p (HOA.out h) hbB);have hgA:gx<wA.heap.size:=A0v HXA.out;have hAB:wA.heap.size<=wB.heap.size:=hbB.size;clear hr ha2 ho2 hbB HSL HTA HPA HBA HXA HOA p2
  have f2:=A1b HXB.out 2;have z2:=A0a HXB.out 2 rfl;have lz:=A0v HXB.out
  go_upto_region 32 with fail
  have HBC:=hzz (HBB.out.setCell (p:=⟨gx,2,none⟩) hgx (.slice ob om od))
  have HXC:=hzz (show(wB.setCell ⟨gx,2,none⟩ (.slice ob om od)).heap[gx]? =some (.cells (UP.cells ⟨ix,oa,on,oc,p.loc.map (A1w K),ob,om,od,p.stk.map (A1w K)⟩).toArray 88 (0,0))from A1e HXB.out 2 (.slice ob om od))
  have HOC:=hzz (fun h=>A4j (HOB.out h) (A0j.set (A0j.refl (fun k=>k=gx) wB) (.inl rfl) 2 (.slice ob om od)) (fun y hy=> .inl (by omega)))
  have HOD:=hzz (fun h=>A4j (HO2.out h).2 (A0j.set (A0j.refl (fun k=>k=gx) wB) (.inl rfl) 2 (.slice ob om od)) (fun y hy=> .inl (by omega)));have HON:=hzz (fun h=>(HO1.out h).1)
  have HOM:=hzz (fun h=>(HO2.out h).1);have h6s:w6.heap.size<=w8.heap.size:=by omega
  have h3s:w3.heap.size<=w6.heap.size:=HJ6.out.k.size;clear f2 z2 lz HBB HXB HOB HO1 HO2;generalize wB.setCell ⟨gx,2,none⟩ (.slice ob om od)=wc at*;have HJ8:=hzz (HJ6.out.below HBC.out)
  have z0:=A0a HXC.out 0 rfl;have z1:=A0a HXC.out 1 rfl;have z2:=A0a HXC.out 2 rfl;dsimp only[UP.cells]at z0 z1 z2
  have HBF:=hzz (show ∀h:C2i K L m.cn p=false,m.maps.all (C2i K L m.cn)=false from fun h=>by
   rw[List.all_eq_false];exact⟨p,HPM.out,by rw[h];decide⟩)
  rw[<-HA1.out,<-HA2.out]at HTC;have d1:=HD.out
  cases c1
  ·have HFF:=hzz (HBF.out (by rw[HTC.out];rfl));have HZW:=hzz (HC.out.zw HJ8.out.k)
   go_upto_region 33 with fail
   refine wp_region_lit ?_;refine A0i rfl _ _ rfl _ rfl _ _ _ _ HJ8.out.o Tryz.underlying59 rfl A1c ?_;refine wpList_store_row rfl _ _ _ rfl _ _ rfl rfl _ _ HZW.out A1c rfl (C0i _) ?_
   go_wp2_with fail
   refine bodyPost_ret (A0d rfl _ _ (w.heap.size+1) A0w (UM.cells _).toArray (0,0) _ rfl (setRow_heap _ _ _ _ _ _ HZW.out) Tryz.underlying59 rfl A1c) rfl ?_
   exact⟨_,false,rfl,(by rw[HMC.out,HFF.out];simp),(fun h=>absurd h (by decide)),A1x (HC.out.bw HJ8.out.k) (by omega) _⟩
  cases a1
  ·have HFF:=hzz (HBF.out (by rw[HTC.out];rfl));have HZW:=hzz (HC.out.zw HJ8.out.k)
   go_upto_region 33 with fail
   refine wp_region_lit ?_;refine A0i rfl _ _ rfl _ rfl _ _ _ _ HJ8.out.o Tryz.underlying59 rfl A1c ?_;refine wpList_store_row rfl _ _ _ rfl _ _ rfl rfl _ _ HZW.out A1c rfl (C0i _) ?_
   go_wp2_with fail
   refine bodyPost_ret (A0d rfl _ _ (w.heap.size+1) A0w (UM.cells _).toArray (0,0) _ rfl (setRow_heap _ _ _ _ _ _ HZW.out) Tryz.underlying59 rfl A1c) rfl ?_
   exact⟨_,false,rfl,(by rw[HMC.out,HFF.out];simp),(fun h=>absurd h (by decide)),A1x (HC.out.bw HJ8.out.k) (by omega) _⟩
  cases a2
  ·have HFF:=hzz (HBF.out (by rw[HTC.out];rfl));have HZW:=hzz (HC.out.zw HJ8.out.k)
   go_upto_region 33 with fail
   refine wp_region_lit ?_;refine A0i rfl _ _ rfl _ rfl _ _ _ _ HJ8.out.o Tryz.underlying59 rfl A1c ?_;refine wpList_store_row rfl _ _ _ rfl _ _ rfl rfl _ _ HZW.out A1c rfl (C0i _) ?_
   go_wp2_with fail
   refine bodyPost_ret (A0d rfl _ _ (w.heap.size+1) A0w (UM.cells _).toArray (0,0) _ rfl (setRow_heap _ _ _ _ _ _ HZW.out) Tryz.underlying59 rfl A1c) rfl ?_
   exact⟨_,false,rfl,(by rw[HMC.out,HFF.out];simp),(fun h=>absurd h (by decide)),A1x (HC.out.bw HJ8.out.k) (by omega) _⟩
  have HTT:=hzz (show C2i K L m.cn p=true by rw[HTC.out];rfl)
  have HUO:=hzz (show UP.Own (⟨ix,oa,on,oc,p.loc.map (A1w K),ob,om,od,p.stk.map (A1w K)⟩:UP) wc w3.heap.size from⟨A2r (HOC.out (by trivial)) (by omega),A2r (HOD.out (by trivial)) (by omega)⟩)
  clear HBF HTC HOC HOD;have o7:=A0a HJ8.out.o 7 rfl;dsimp only[UM.cells]at o7;have hcl:x9.mn<=65536:=by rw[HCN.out];omega
  go_wp2_with (at_builtin;refine A0r D9z rfl _ _ rfl w3.heap.size _ x9.mn _ rfl HJ8.out.w.maps _ 1 _ _ rfl rfl rfl rfl (by omega) (by unfold maxLen;omega) HJ8.out.k.size ?_;intro v9 w9 hown9 hg9 hb9;have hk9:=A3a.app HJ8.out.w.maps hg9;have hown8:w9.ownsRow w3.heap.size 88 3 v9 (x9.mn+1) ((x9.maps++[(⟨ix,oa,on,oc,p.loc.map (A1w K),ob,om,od,p.stk.map (A1w K)⟩:UP)]).flatMap UP.cells):=(by rw[List.flatMap_append];exact hown9);obtain⟨a9,c9,rfl,-,-⟩:=Ss.ofOwn UP.cells_length (by decide) hown8;have hB9:A0j (fun k=>w3.heap.size<=k) wc w9:=A0j.ofB hb9 (Nat.le_trans (by simp) hg9.size);have HJ9:=hzz (HJ8.out.app hB9 hk9 (HJ8.out.w.maps1 hk9 hown8 (HUO.out.keptT hk9 (by decide))) HC.out.gs);have fo:=A1b HJ9.out.2.1 7;have lto:=A0v HJ9.out.2.1;have co:=A0a HJ9.out.2.1 7 rfl;dsimp only[UM.cells]at co;clear hown9 hown8 hg9 hb9 hk9 hB9)
  have HJ10:=HJ9.out.2.2 7 (.slice a9 (x9.mn+1) c9) rfl;have HX10:=hzz (UM.p_maps1 HX9.out a9 (x9.mn+1) c9 (⟨ix,oa,on,oc,p.loc.map (A1w K),ob,om,od,p.stk.map (A1w K)⟩:UP))
  have HJ11:=hzz HJ10
  have HX11:=hzz (show UM.p {x9 with ma:=a9,mn:=x9.mn+1,mc:=c9,maps:=x9.maps++[(⟨ix,oa,on,oc,p.loc.map (A1w K),ob,om,od,p.stk.map (A1w K)⟩:UP)]}=⟨sb,NM,DS,m.st,m.lo,none,0,0,L.map (B1a K L),none,0,0,m.traps.map (A9n K L m.cn),none,0,0,(m.maps.take (jp+1)).map (C9z K L m.cn)⟩ by
   rw[HX10.out,HTK.out,List.map_append,List.map_singleton,HTV.out,<-HU.out (by trivial)];rfl)
  have HE11:=hzz (show(m.maps.take (jp+1)).all (C2i K L m.cn)=true by
   rw[HTK.out,List.all_append,HE9.out];simp[HTT.out])
  clear HJ10 HX10 HJ9 HX9 HE9 HJ8 HJ6 HXC HBC HGP HTT HUO fo lto co z0 z1 z2 o7 d1 HTV HU HD;go_roundg (m.mn-(jp+1))
  case measure=>omega
  exact⟨jp+1,_,by omega,rfl,by go_num,HE11,HX11,HJ11⟩
 have hje:jp=m.mn:=by omega
 have hfull:m.maps.take jp=m.maps:=List.take_of_length_le (by rw[HM.out.maps.1];omega);rw[hfull]at HE9 HX9;have hnl2:¬((jp:Int)<m.mn):=by omega
 clear hje;have HZW:=hzz (HC.out.zw HJ9.out.k)
 go_upto_region 36 with fail
 refine wp_region_lit ?_;refine A0i rfl _ _ rfl _ rfl _ _ _ _ HJ9.out.o Tryz.underlying59 rfl A1c ?_;refine wpList_store_row rfl _ _ _ rfl _ _ rfl rfl _ _ HZW.out A1c rfl (C0i _) ?_
 go_wp2_with fail
 refine bodyPost_ret (A0d rfl _ _ (w.heap.size+1) A0w (UM.cells _).toArray (0,0) _ rfl (setRow_heap _ _ _ _ _ _ HZW.out) Tryz.underlying59 rfl A1c) rfl ?_
 exact⟨_,true,rfl,(by rw[HMC.out,HE.out,HE5.out,HE9.out];simp),(fun _=>⟨HX9.out.trans HFV.out.symm,(HJ9.out.w.keepP (A0j.setrow (A0j.refl (fun k=>k=w.heap.size+1) _) (.inl rfl) _) (fun y hy=> .inl (by omega))).mono (by omega)⟩),A1x (HC.out.bw HJ9.out.k) (by omega) _⟩
end
end Go.Proofs.YtclpkipaehpkdaaGreatDoor
