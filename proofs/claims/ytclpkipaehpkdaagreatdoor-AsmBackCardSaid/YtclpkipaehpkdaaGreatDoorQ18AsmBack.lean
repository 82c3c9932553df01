/- asm -/
import Derived.Test.YtclpkipaehpkdaaGreatDoorQ16AsmBack
set_option linter.unusedVariables false
set_option linter.unusedSimpArgs false
set_option maxRecDepth 100000
set_option maxHeartbeats 64000000
open Go.Proofs.Tryz
namespace Go.Proofs.YtclpkipaehpkdaaGreatDoor
section
open Go.ChangeShapes Go.WideShapes Go.ChangeAt Go.RowKit
structure RmC(w W:World)(m:KM)(la:Option Addr)(ln:Nat)(L:List RW):Prop where
 m:W.heap[w.heap.size]? =some (.cells m.cells.toArray 65 (0,0))
 z:W.heap[w.heap.size+1]? =some (.cells z0M.cells.toArray yT (0,0))
 rs:Rs W la ln L
 oo:wX la ln (w.heap.size+1+1)
 b:Below w.heap.size w W
 gs:w.heap.size+1+1<W.heap.size
abbrev GM(w:World):Nat->Prop:=fun k=>k=w.heap.size+1+1
theorem RmC.mw{w W wr:World}{m:KM}{la:Option Addr}{ln:Nat}{L:List RW}(h:RmC w W m la ln L)(k:yZ (GM w) W wr):wr.heap[w.heap.size]? =some (.cells m.cells.toArray 65 (0,0)):=k.row h.m (by show ¬(_=_);omega)
theorem RmC.zw{w W wr:World}{m:KM}{la:Option Addr}{ln:Nat}{L:List RW}(h:RmC w W m la ln L)(k:yZ (GM w) W wr):wr.heap[w.heap.size+1]? =some (.cells z0M.cells.toArray yT (0,0)):=k.row h.z (by show ¬(_=_);omega)
theorem RmC.rsw{w W wr:World}{m:KM}{la:Option Addr}{ln:Nat}{L:List RW}(h:RmC w W m la ln L)(k:yZ (GM w) W wr):Rs wr la ln L:=k.ss h.rs (fun hn b off e hp=>h.oo hn b off e hp)
theorem RmC.bw{w W wr:World}{m:KM}{la:Option Addr}{ln:Nat}{L:List RW}(h:RmC w W m la ln L)(k:yZ (GM w) W wr):Below w.heap.size w wr:=k.below h.b Z5 (fun x hx=>by have VG:x=w.heap.size+1+1:=hx;omega)
structure RmJ(w W wr:World)(x:UM):Prop where
 k:yZ (GM w) W wr
 o:wr.heap[w.heap.size+1+1]? =some (.cells x.cells.toArray yT (0,0))
 w:x.Own wr W.heap.size
theorem RmJ.below{w W wr w9:World}{x:UM}(h:RmJ w W wr x)(hb:Below wr.heap.size wr w9):RmJ w W w9 x:=
 ⟨h.k.trans (yZ.of hb),yW h.o hb,h.w.keepP (yZ.of (p:=fun _=>False) hb) (fun _ hx=>hx.elim)⟩
theorem RmJ.app{w W wr w9:World}{x x':UM}{e:TypeId}(h:RmJ w W wr x)(hB:yZ (fun k=>W.heap.size<=k) wr w9)(ht:yd e wr w9)(hw:x'.Own w9 W.heap.size)(WX:w.heap.size+1+1<W.heap.size)(P7:yT≠e:=by decide):
  yZ (GM w) W w9/\w9.heap[w.heap.size+1+1]? =some (.cells x.cells.toArray yT (0,0))/\∀(o:Nat) (v:Value),x'.cells.toArray=x.cells.toArray.setIfInBounds o v->RmJ w W (w9.setCell ⟨w.heap.size+1+1,o,none⟩ v) x':=by
 have ZU:=h.k.new hB;have P8:=ht.2 _ _ _ _ h.o P7;refine⟨ZU,P8,fun o v hc=> ?_⟩;have hs:yZ (GM w) w9 (w9.setCell ⟨w.heap.size+1+1,o,none⟩ v):=yZ.set (yZ.refl (GM w) w9) (.inl rfl) o v;refine⟨ZU.trans hs,?_,hw.keepP hs (fun y hy=> .inl (by have AC:y=w.heap.size+1+1:=hy;omega))⟩;have:=wZ P8 o v;rw[hc];exact this
structure RmB(w wx:World)(m:KM)(x:UM):Prop where
 m:wx.heap[w.heap.size]? =some (.cells m.cells.toArray 65 (0,0))
 z:wx.heap[w.heap.size+1]? =some (.cells z0M.cells.toArray yT (0,0))
 o:wx.heap[w.heap.size+1+1]? =some (.cells x.cells.toArray yT (0,0))
 b:Below w.heap.size w wx
theorem RmB.below{w wx w9:World}{m:KM}{x:UM}(h:RmB w wx m x)(hb:Below wx.heap.size wx w9):RmB w w9 m x:=⟨yW h.m hb,yW h.z hb,yW h.o hb,h.b.trans (hb.mono h.b.size)⟩
def D9c(K:List KV)(m:KM)(w:World)(e:Ending)(w':World):Prop:=
 ∃(x:UM) (ok:Bool),e= .returned (.tuple #[.agg x.cells.toArray,.bool ok])/\ok=vL K m/\(ok=true->x.p=vC K m/\x.Own w' w.heap.size)/\Below w.heap.size w w'
theorem ws{w wr:World}(hb:Below w.heap.size w wr){g:Nat}(hg:w.heap.size<=g)(cs:Array Value):Below w.heap.size w (wr.setRow g cs):=
 (yZ.setrow (yZ.refl (fun k=>k=g) wr) (.inl rfl) cs).below hb Z5 (fun k hk=>by omega)
def QM(s b o1 o2:Nat)(m:KM)(nm ds:List UInt8)(w:World):Prop:=w.heap[s]? =some (.cells m.cells.toArray 65 (0,0))/\w.cell? ⟨b,o1,none⟩=some (.string ⟨nm.toArray⟩)/\w.cell? ⟨b,o2,none⟩=some (.string ⟨ds.toArray⟩)
theorem QM.of{w wx:World}{b o1 o2:Nat}{m:KM}{nm ds:List UInt8}(hm:wx.heap[w.heap.size]? =some (.cells m.cells.toArray 65 (0,0)))(hb:Below w.heap.size w wx)(k1:w.cell? ⟨b,o1,none⟩=some (.string ⟨nm.toArray⟩))(k2:w.cell? ⟨b,o2,none⟩=some (.string ⟨ds.toArray⟩)):QM w.heap.size b o1 o2 m nm ds wx:=⟨hm,yF hb k1,yF hb k2⟩
theorem mC{L:List RW}(h:pZ L)(cn:Nat)(p:Int):decide (vv L p<0)= !plC L cn p false/\(plC L cn p false=true->vv L p=((plV L cn p false:Nat):Int)):=by
 unfold plC plV;rw[if_neg (by simp)]
 rcases h.first p with⟨k,_,h1,h2⟩|⟨h1,h2⟩
 ·rw[h1,h2];exact⟨by simp<;>omega,fun _=>rfl⟩
 rw[h1,h2]
 exact⟨rfl,fun hh=>by cases hh⟩
theorem E5k{L:List RW}(h:pZ L)(cn:Nat)(p:Int):decide ((if p=(cn:Int)then(L.length:Int)else vv L p)<0)= !plC L cn p true/\(plC L cn p true=true->(if p=(cn:Int)then(L.length:Int)else vv L p)=((plV L cn p true:Nat):Int)):=by
 by_cases hp:p=(cn:Int)
 ·rw[if_pos hp];unfold plC plV;rw[if_pos ⟨rfl,hp⟩,decide_eq_true hp];exact⟨by simp<;>omega,fun _=>rfl⟩
 rw[if_neg hp];unfold plC plV;rw[if_neg (fun hh=>hp hh.2),decide_eq_false hp]
 rcases h.first p with⟨k,_,h1,h2⟩|⟨h1,h2⟩
 ·rw[h1,h2];exact⟨by simp<;>omega,fun _=>rfl⟩
 rw[h1,h2]
 exact⟨rfl,fun hh=>by cases hh⟩
theorem fm{K:List KV}{zn:Nat}{l:List KS}{w w':World}{e:Ending}(h:eB K zn l w e w'):∃(oa:Option Addr) (on oc:Nat) (a:Bool),e= .returned (.tuple #[.slice oa on oc,.bool a])/\a=l.all (xa K)/\(a=true->on=zn/\w'.ownsRow w.heap.size 9 1 (.slice oa on oc) on ((l.map (yD K)).map xX))/\Below w.heap.size w w':=by
 obtain⟨hb,⟨h1,h2⟩|⟨h1,oa,oc,h2,h3⟩⟩:=h
 ·exact⟨none,0,0,false,h2,h1.symm,(fun h=>by cases h),hb⟩
 exact⟨oa,zn,oc,true,h2,h1.symm,fun _=>⟨rfl,h3⟩,hb⟩
theorem E0d{K:List KV}{m:KM}{NM DS:List UInt8}{de:Int}{L:List RW}(h1:yN K m.nm=NM)(h2:yN K m.ds=DS)(h3:xW m.code=(de,L)):
  vL K m=((yk NM&&xY DS)&&(decide (de=0)&&(L.all (ww K)&&(m.traps.all (vq K L m.cn)&&m.maps.all (vj K L m.cn))))):=by
 unfold vL;rw[h1,h2,h3]
theorem D4a(w:World)(a:Option Addr)(n cap:Nat)(K:List KV)(m:KM)(hs:Ks w a n K)(hn:n<=65536)(Zb:∀i:Int,(kAt K i).s.length<=65536)(P6:kj K)(hm:m.Rd w)(XC:xF K m=true):
  Calls prog 29 #[.slice a n cap,.agg #[.int .i64 m.fl,.int .i64 m.nm,.int .i64 m.ds,.int .i64 m.st,.int .i64 m.lo,.slice m.ca m.cn m.cc,.slice m.ta m.tn m.tc,.slice m.ma m.mn m.mc]] w (D9c K m w):=by
 have Xu:=Z' hs;have Zg:=Z' hn;have Yn:=Z' Zb;have Wg:=Z' P6;have HM:=Z' hm;obtain⟨q1,q2,q3,q4,q5,q6⟩:=jM XC hm;unfold xK at q6;simp only[Bool.and_eq_true]at q6;obtain⟨⟨-,t1⟩,t2⟩:=q6;obtain⟨n0,n1,n2⟩:=uh t1;obtain⟨d0,d1,d2⟩:=uh t2;obtain⟨sb,SW⟩:=Z8 (decide (m.fl=8));have esb:(m.fl==8)=sb:=by rw[SW,Bool.eq_iff_iff,beq_iff_eq,decide_eq_true_iff]
 obtain⟨NM,Uv⟩:∃NM,NM=(kAt K m.nm).s:=⟨_,rfl⟩;obtain⟨DS,Tj⟩:∃DS,DS=(kAt K m.ds).s:=⟨_,rfl⟩;have KX:=Z' (show yN K m.nm=NM by unfold yN;rw[t1,if_pos rfl,Uv]);have JV:=Z' (show yN K m.ds=DS by unfold yN;rw[t2,if_pos rfl,Tj]);have Vc:=Z' (show NM.length<=65536 by rw[Uv];exact Zb _);have Pb:=Z' (show DS.length<=65536 by rw[Tj];exact Zb _);have Wt:m.nm<n:=by have:=hs.1;omega
 have Pg:m.ds<n:=by have:=hs.1;omega
 have YK:0<=m.nm:=by omega
 have MD:0<=m.ds:=by omega
 have Ez:m.nm<1048576:=by omega
 have EJ:m.ds<1048576:=by omega
 have VP:=Z' SW;have SM:=Z' q1;have WF:=Z' q2;have Kh:=Z' q3;have HQ4:=Z' q4;have Bn:=Z' q5;have ZN:Below w.heap.size w ((w.alloc (.cells #[.int .i64 m.fl,.int .i64 m.nm,.int .i64 m.ds,.int .i64 m.st,.int .i64 m.lo,.slice m.ca m.cn m.cc,.slice m.ta m.tn m.tc,.slice m.ma m.mn m.mc] 65)).alloc (.cells #[.bool false,.string ⟨#[]⟩,.string ⟨#[]⟩,.int .i64 0,.int .i64 0,.slice none 0 0,.slice none 0 0,.slice none 0 0] yT)):=((Below.refl w.heap.size w).alloc Z5 _).alloc (by simp) _;have ZT:=Z' ZN
 have Vp:=Z' (show((w.alloc (.cells #[.int .i64 m.fl,.int .i64 m.nm,.int .i64 m.ds,.int .i64 m.st,.int .i64 m.lo,.slice m.ca m.cn m.cc,.slice m.ta m.tn m.tc,.slice m.ma m.mn m.mc] 65)).alloc (.cells #[.bool false,.string ⟨#[]⟩,.string ⟨#[]⟩,.int .i64 0,.int .i64 0,.slice none 0 0,.slice none 0 0,.slice none 0 0] yT)).heap[w.heap.size]? =some (.cells m.cells.toArray 65 (0,0)) by
  rw[Below.heap_alloc _ _ _ (by simp)];exact heap_alloc_last w _)
 have WG:=Z' (show((w.alloc (.cells #[.int .i64 m.fl,.int .i64 m.nm,.int .i64 m.ds,.int .i64 m.st,.int .i64 m.lo,.slice m.ca m.cn m.cc,.slice m.ta m.tn m.tc,.slice m.ma m.mn m.mc] 65)).alloc (.cells #[.bool false,.string ⟨#[]⟩,.string ⟨#[]⟩,.int .i64 0,.int .i64 0,.slice none 0 0,.slice none 0 0,.slice none 0 0] yT)).heap[w.heap.size+1]? =some (.cells z0M.cells.toArray yT (0,0)) by
  have:=heap_alloc_last (w.alloc (.cells #[.int .i64 m.fl,.int .i64 m.nm,.int .i64 m.ds,.int .i64 m.st,.int .i64 m.lo,.slice m.ca m.cn m.cc,.slice m.ta m.tn m.tc,.slice m.ma m.mn m.mc] 65)) (.cells #[.bool false,.string ⟨#[]⟩,.string ⟨#[]⟩,.int .i64 0,.int .i64 0,.slice none 0 0,.slice none 0 0,.slice none 0 0] yT);have h2:((w.alloc (.cells #[.int .i64 m.fl,.int .i64 m.nm,.int .i64 m.ds,.int .i64 m.st,.int .i64 m.lo,.slice m.ca m.cn m.cc,.slice m.ta m.tn m.tc,.slice m.ma m.mn m.mc] 65)).alloc (.cells #[.bool false,.string ⟨#[]⟩,.string ⟨#[]⟩,.int .i64 0,.int .i64 0,.slice none 0 0,.slice none 0 0,.slice none 0 0] yT)).heap[w.heap.size+1]? =some (.cells #[.bool false,.string ⟨#[]⟩,.string ⟨#[]⟩,.int .i64 0,.int .i64 0,.slice none 0 0,.slice none 0 0,.slice none 0 0] yT):=by simpa using this
  exact h2)
 have YS:=Z' (show((w.alloc (.cells #[.int .i64 m.fl,.int .i64 m.nm,.int .i64 m.ds,.int .i64 m.st,.int .i64 m.lo,.slice m.ca m.cn m.cc,.slice m.ta m.tn m.tc,.slice m.ma m.mn m.mc] 65)).alloc (.cells #[.bool false,.string ⟨#[]⟩,.string ⟨#[]⟩,.int .i64 0,.int .i64 0,.slice none 0 0,.slice none 0 0,.slice none 0 0] yT)).heap.size=w.heap.size+1+1 by simp);clear hm XC SW t1 t2 n0 n1 n2 d0 d1 d2 Zb P6 ZN q1 q2 q3 q4 q5;obtain⟨b,off,rfl,Zu,-,-,-,-,k1⟩:=hs.at m.nm.toNat (by omega);obtain⟨b',off',e1,-,-,-,-,-,k2⟩:=hs.at m.ds.toNat (by omega)
 cases e1
 have e1:((m.nm.toNat:Nat):Int)=m.nm:=Int.toNat_of_nonneg (by omega);have e2:((m.ds.toNat:Nat):Int)=m.ds:=Int.toNat_of_nonneg (by omega);rw[e1,<-Uv]at k1;rw[e2,<-Tj]at k2;have Xm:=Z' k1;have Na:=Z' k2;clear e1 e2 Uv Tj hs hn k1 k2;go_enter func29,ntmps29
 go_upto_region 1 with fail
 have Hr:=Z' ((Below.refl ((w.alloc (.cells #[.int .i64 m.fl,.int .i64 m.nm,.int .i64 m.ds,.int .i64 m.st,.int .i64 m.lo,.slice m.ca m.cn m.cc,.slice m.ta m.tn m.tc,.slice m.ma m.mn m.mc] 65)).alloc (.cells #[.bool false,.string ⟨#[]⟩,.string ⟨#[]⟩,.int .i64 0,.int .i64 0,.slice none 0 0,.slice none 0 0,.slice none 0 0] yT)).heap.size ((w.alloc (.cells #[.int .i64 m.fl,.int .i64 m.nm,.int .i64 m.ds,.int .i64 m.st,.int .i64 m.lo,.slice m.ca m.cn m.cc,.slice m.ta m.tn m.tc,.slice m.ma m.mn m.mc] 65)).alloc (.cells #[.bool false,.string ⟨#[]⟩,.string ⟨#[]⟩,.int .i64 0,.int .i64 0,.slice none 0 0,.slice none 0 0,.slice none 0 0] yT))).drew);have Yk:=Z7 ZT Hr.out;have Vx:=Z' (yW Vp.out Hr.out);have LR:=Z' (yW WG.out Hr.out);have GE:=Z9 (((w.alloc (.cells #[.int .i64 m.fl,.int .i64 m.nm,.int .i64 m.ds,.int .i64 m.st,.int .i64 m.lo,.slice m.ca m.cn m.cc,.slice m.ta m.tn m.tc,.slice m.ma m.mn m.mc] 65)).alloc (.cells #[.bool false,.string ⟨#[]⟩,.string ⟨#[]⟩,.int .i64 0,.int .i64 0,.slice none 0 0,.slice none 0 0,.slice none 0 0] yT)).drew.heap.size=w.heap.size+1+1) YS.out
 refine ye (QM w.heap.size b (off+m.nm.toNat*5+4) (off+m.ds.toNat*5+4) m NM DS) (.of [(0,true),(1,true),(2,true),(3,true),(4,true),(5,true),(6,true),(7,true),(8,true),(9,true),(10,true),(11,true),(12,true),(13,true),(14,true),(15,true),(16,true),(17,true),(18,true),(19,true),(20,false),(21,false)] (.stir [])) (by kernel_rfl) (by kernel_rfl) (fun c a d v w h=>by cases d<;>exact h) ?_
 clear Hr ZT Vp WG YS;generalize((w.alloc (.cells #[.int .i64 m.fl,.int .i64 m.nm,.int .i64 m.ds,.int .i64 m.st,.int .i64 m.lo,.slice m.ca m.cn m.cc,.slice m.ta m.tn m.tc,.slice m.ma m.mn m.mc] 65)).alloc (.cells #[.bool false,.string ⟨#[]⟩,.string ⟨#[]⟩,.int .i64 0,.int .i64 0,.slice none 0 0,.slice none 0 0,.slice none 0 0] yT)).drew=V0 at*;have Z3:QM w.heap.size b (off+m.nm.toNat*5+4) (off+m.ds.toNat*5+4) m NM DS V0:=QM.of Vx.out Yk.out Xm.out Na.out;have l0:=fun z (h:QM w.heap.size b (off+m.nm.toNat*5+4) (off+m.ds.toNat*5+4) m NM DS z)=>y8 h.1 0 rfl
 have l1:=fun z (h:QM w.heap.size b (off+m.nm.toNat*5+4) (off+m.ds.toNat*5+4) m NM DS z)=>y8 h.1 1 rfl
 have l2:=fun z (h:QM w.heap.size b (off+m.nm.toNat*5+4) (off+m.ds.toNat*5+4) m NM DS z)=>y8 h.1 2 rfl
 have l3:=fun z (h:QM w.heap.size b (off+m.nm.toNat*5+4) (off+m.ds.toNat*5+4) m NM DS z)=>y8 h.1 3 rfl
 have l4:=fun z (h:QM w.heap.size b (off+m.nm.toNat*5+4) (off+m.ds.toNat*5+4) m NM DS z)=>y8 h.1 4 rfl
 have l5:=fun z (h:QM w.heap.size b (off+m.nm.toNat*5+4) (off+m.ds.toNat*5+4) m NM DS z)=>h.2.1
 have l6:=fun z (h:QM w.heap.size b (off+m.nm.toNat*5+4) (off+m.ds.toNat*5+4) m NM DS z)=>h.2.2
 dsimp only[KM.cells]at l0 l1 l2 l3 l4
 iterate 20
  refine yY fun K hK=>tkF ?_
  go_simp
  try go_bits
  refine hK _ _ ?_;clear hK K
 refine yY fun K hK=>alF ?_
 go_step;have ZY:=yV V0 (.cells #[.bool false,.string ⟨#[]⟩,.string ⟨#[]⟩,.int .i64 0,.int .i64 0,.slice none 0 0,.slice none 0 0,.slice none 0 0] yT)
 have GB:=Z' (show(V0.alloc (.cells #[.bool false,.string ⟨#[]⟩,.string ⟨#[]⟩,.int .i64 0,.int .i64 0,.slice none 0 0,.slice none 0 0,.slice none 0 0] yT)).heap[w.heap.size+1+1]? =some (.cells z0M.cells.toArray yT (0,0)) by
  have:=heap_alloc_last V0 (.cells #[.bool false,.string ⟨#[]⟩,.string ⟨#[]⟩,.int .i64 0,.int .i64 0,.slice none 0 0,.slice none 0 0,.slice none 0 0] yT);rw[GE.out]at this;exact this)
 have E9:=Z7 Yk ZY;have Wm:=Z' (yW Vx.out ZY);have WP:=Z' (yW LR.out ZY);refine⟨QM.of Wm.out E9.out Xm.out Na.out,hK _ _ ?_⟩;clear hK K ZY Z3 Yk Vx LR;generalize hV1:V0.alloc (.cells #[.bool false,.string ⟨#[]⟩,.string ⟨#[]⟩,.int .i64 0,.int .i64 0,.slice none 0 0,.slice none 0 0,.slice none 0 0] yT)=V1 at*;clear hV1;refine yY fun K hK=>alF ?_
 refine wp_store_row yT _ _ rfl V0.heap.size (UM.cells (⟨sb,NM,DS,m.st,m.lo,none,0,0,[],none,0,0,[],none,0,0,[]⟩:UM)).toArray rfl rfl yT z0M.cells.toArray (by rw[GE.out];exact GB.out) xM rfl (uU _) ?_;rw[GE.out];have Zy:=Z9 (RmB w (V1.setRow (w.heap.size+1+1) (UM.cells (⟨sb,NM,DS,m.st,m.lo,none,0,0,[],none,0,0,[],none,0,0,[]⟩:UM)).toArray) m (⟨sb,NM,DS,m.st,m.lo,none,0,0,[],none,0,0,[],none,0,0,[]⟩:UM)) (⟨by rw[setRow_other _ _ _ _ (by omega)];exact Wm.out,by rw[setRow_other _ _ _ _ (by omega)];exact WP.out,setRow_heap _ _ _ _ _ _ GB.out,ws E9.out (by omega) _⟩);have ZZ:QM w.heap.size b (off+m.nm.toNat*5+4) (off+m.ds.toNat*5+4) m NM DS (V1.setRow (w.heap.size+1+1) (UM.cells (⟨sb,NM,DS,m.st,m.lo,none,0,0,[],none,0,0,[],none,0,0,[]⟩:UM)).toArray):=QM.of Zy.out.m Zy.out.b Xm.out Na.out;refine⟨ZZ,hK _ _ ?_⟩;clear hK K GB E9 Wm WP GE;generalize V1.setRow (w.heap.size+1+1) (UM.cells (⟨sb,NM,DS,m.st,m.lo,none,0,0,[],none,0,0,[],none,0,0,[]⟩:UM)).toArray=V2 at*;refine yA (fun y=>y=V2) (fun y hy=>hy▸ZZ) rfl ?_;refine yE (fun y hy=> ?_);obtain rfl:V2=y:=Eq.symm hy;clear ZZ l0 l1 l2 l3 l4 l5 l6 hy Ez EJ YK MD Wt Pg esb;have Vf:=Z' (HM.out.below Zy.out.b);have K3:m.cn<=65536:=by have:=SM.out;omega
 have c5:=y8 Zy.out.m 5 rfl;dsimp only[KM.cells]at c5;have MB:=Z' (dG V2 m.ca m.cn m.cc m.code Vf.out.code K3 Vf.out.cle);obtain⟨de,L,hR⟩:∃de L,xW m.code=(de,L):=⟨_,_,rfl⟩;rw[hR]at MB;have HR:=Z' hR;have WU:=Z' (E0d KX.out JV.out hR);clear hR
 go_wp2_with fail
 refine MB.out.mono ?_;rintro e w3 ⟨v,ln,rfl,UE,Kb,Zn⟩;obtain⟨la,lc,rfl,Ly,ST⟩:=Ss.ofOwn RW.cells_length (by decide) UE;have P':=Z' (Zy.out.below Zn);have HC:=Z9 (RmC w w3 m la ln L) (⟨P'.out.m,P'.out.z,Ly,mv UE (yG Zy.out.o),P'.out.b,yG P'.out.o⟩)
 have HJ:=Z9 (RmJ w w3 w3 (⟨sb,NM,DS,m.st,m.lo,none,0,0,[],none,0,0,[],none,0,0,[]⟩:UM)) (⟨yZ.refl _ _,P'.out.o,⟨World.ownsRow_nil _ _ _ _,World.ownsRow_nil _ _ _ _,World.ownsRow_nil _ _ _ _,fun p hp=>by cases hp⟩⟩)
 have WK:=Z' Kb
 have Wp:ln<=65536:=by
  have h1:L.length=ln:=Ly.1;have h2:=jE m.code;rw[HR.out]at h2;dsimp only at h2;have h3:=Vf.out.code.1;have h4:=SM.out;omega
 have Xx:=Z' Wp;clear ST UE Kb Zn Ly MB c5 Wp Vf K3 P' Zy;by_cases hde:de=0
 case neg=>
  have e8:(de !=0)=true:=by simp[hde]
  have Bj:=Z9 (decide (de=0)=false) (decide_eq_false hde);clear hde;have YC:=Z' (HC.out.zw HJ.out.k)
  go_upto_region 4 with fail
  refine wp_region_lit ?_;refine xN rfl _ _ rfl _ rfl _ _ _ _ HJ.out.o underlying59 rfl xM ?_;refine wpList_store_row rfl _ _ _ rfl _ _ rfl rfl _ _ YC.out xM rfl (uU _) ?_
  go_wp2_with fail
  refine bodyPost_ret (x8 rfl _ _ (w.heap.size+1) yT (UM.cells _).toArray (0,0) _ rfl (setRow_heap _ _ _ _ _ _ YC.out) underlying59 rfl xM) rfl ?_;exact⟨_,false,rfl,(by rw[WU.out,Bj.out];simp),(fun h=>absurd h (by decide)),ws (HC.out.bw HJ.out.k) (by omega) _⟩
 subst hde;have Y9:=Z' (pG w3 NM Vc.out);have Zj:=Z' (jU w3 DS Pb.out);obtain⟨b1,ZQ⟩:=Z8 (yk NM);obtain⟨b2,ZN⟩:=Z8 (xY DS);rw[<-ZQ]at Y9 WU;rw[<-ZN]at Zj WU;clear ZQ ZN;have o1:=y8 HJ.out.o 1 rfl;have o2:=y8 HJ.out.o 2 rfl;dsimp only[UM.cells]at o1 o2
 go_wp2_with fail
 refine Y9.out.mono ?_;rintro e w4 ⟨rfl,AL⟩;obtain rfl:w3=w4:=Eq.symm AL
 cases b1
 ·have YC:=Z' (HC.out.zw HJ.out.k)
  go_upto_region 4 with fail
  refine wp_region_lit ?_;refine xN rfl _ _ rfl _ rfl _ _ _ _ HJ.out.o underlying59 rfl xM ?_;refine wpList_store_row rfl _ _ _ rfl _ _ rfl rfl _ _ YC.out xM rfl (uU _) ?_
  go_wp2_with fail
  refine bodyPost_ret (x8 rfl _ _ (w.heap.size+1) yT (UM.cells _).toArray (0,0) _ rfl (setRow_heap _ _ _ _ _ _ YC.out) underlying59 rfl xM) rfl ?_;exact⟨_,false,rfl,(by rw[WU.out];simp),(fun h=>absurd h (by decide)),ws (HC.out.bw HJ.out.k) (by omega) _⟩
 go_wp2_with fail
 refine Zj.out.mono ?_;rintro e w4 ⟨rfl,Y1⟩;have X8:=Z' (HJ.out.below Y1);clear Y1 HJ Y9 Zj o1 o2
 cases b2
 ·have YC:=Z' (HC.out.zw X8.out.k)
  go_upto_region 4 with fail
  refine wp_region_lit ?_;refine xN rfl _ _ rfl _ rfl _ _ _ _ X8.out.o underlying59 rfl xM ?_;refine wpList_store_row rfl _ _ _ rfl _ _ rfl rfl _ _ YC.out xM rfl (uU _) ?_
  go_wp2_with fail
  refine bodyPost_ret (x8 rfl _ _ (w.heap.size+1) yT (UM.cells _).toArray (0,0) _ rfl (setRow_heap _ _ _ _ _ _ YC.out) underlying59 rfl xM) rfl ?_;exact⟨_,false,rfl,(by rw[WU.out];simp),(fun h=>absurd h (by decide)),ws (HC.out.bw X8.out.k) (by omega) _⟩
 have Jq:=Z' (fg HR.out);have TC:=Z' (E6n HR.out);have Ee:=Z' (gi HR.out);have Vy:=Z' (fun r hr hf=>iF m.code r (by rw[HR.out];exact hr) hf);have AP:w.heap.size+1+1<w3.heap.size:=HC.out.gs
 go_wp2_with fail
 go_loopg [64] ln (fun gn i wr=>∃(j:Nat) (x:UM),j<=ln/\gn=ln-j/\i= .int .i64 j/\Hid ((L.take j).all (ww K)=true)/\Hid (x.p=⟨sb,NM,DS,m.st,m.lo,none,0,0,(L.take j).map (xT K L),none,0,0,[],none,0,0,[]⟩)/\Hid (RmJ w w3 wr x))
 case atStart=>exact⟨0,_,by omega,by omega,by go_num,Z' (by simp),Z' rfl,X8⟩
 clear X8;obtain⟨j,x,hj,rfl,rfl,HE,HX,HJ⟩:=hrel;by_cases ZX:j<ln
 ·have WH:x.code.length=j:=by
   have h1:=congrArg (fun u=>u.code.length) HX.out;have h2:=HC.out.rs.1;simp only[UM.p,List.length_map,List.length_take]at h1;omega
  have Yf:x.cn=j:=by
   obtain⟨a9,c9,e9,h9,_⟩:=Ss.ofOwn IN.cells_length (by decide) HJ.out.w.code
   cases e9
   rw[<-WH];exact h9.1.symm
  have Qb:ln<=65536:=Xx.out;have Wz:=Z' Yf;have HS:=Z' (HC.out.rsw HJ.out.k);have XZ:(j:Int)<ln:=by omega
  obtain⟨bq,ofq,r,Ym,Zu,hs,q⟩:=HS.out.getC j ZX;have q0:=q 0 (by omega);have q1:=q 1 (by omega);have q2:=q 2 (by omega);have q3:=q 3 (by omega);rw[Nat.add_zero]at q0;simp only[RW.cells,List.getElem?_cons_zero,List.getElem?_cons_succ]at q0 q1 q2 q3
  have YW:=Z' (show L.take (j+1)=L.take j++[r] by
   have YP:=(Z4 hs).1;rw[List.take_succ_eq_append_getElem YP,(Z4 hs).2])
  have Wb:=Z' (List.mem_of_getElem? hs);have Uy:=Z' Ym;subst Ym;clear hs q ZX HS WH Yf
  go_upto_region 8 with fail
  have Wr:=yV wr (.cells #[.int .i64 r.pos,.int .u8 (r.op:Nat),.int .i64 r.a,.int .i64 r.b] 118);have ZB:=Z' (HJ.out.below Wr);have Qm:=Z' (heap_alloc_last wr (.cells #[.int .i64 r.pos,.int .u8 (r.op:Nat),.int .i64 r.a,.int .i64 r.b] 118));clear Wr HJ q0 q1 q2 q3 Zu;generalize wr.alloc _=w8 at*;generalize wr.heap.size=gr at*;have p0:=y8 Qm.out 0 rfl;have p1:=y8 Qm.out 1 rfl;have p2:=y8 Qm.out 2 rfl;have p3:=y8 Qm.out 3 rfl;have MG:=Z' (D7f w8 (some ⟨b,off,none⟩) n cap K (some ⟨bq,ofq,none⟩) ln lc L r (Xu.out.below (HC.out.bw ZB.out.k)) Zg.out Yn.out Wg.out (HC.out.rsw ZB.out.k) Xx.out (TC.out r Wb.out) (WK.out r Wb.out).2.2 (Ee.out r Wb.out) (Vy.out r Wb.out))
  go_wp2_with fail
  refine MG.out.mono ?_;rintro e w9 ⟨y,ok,rfl,XC,hy,ZK⟩;obtain⟨vop,vn,vm,vcl,vnm,vds,vtx⟩:=y;have ZC:=Z' (ZB.out.below ZK);have WT:=Z' XC;have CF:=Z' hy;clear XC hy ZK ZB MG Qm p0 p1 p2 p3;dsimp only[IN.cells]
  go_upto_region 9 with fail
  have ZY:=yV w9 (.cells #[.int .u8 (vop:Nat),.int .i64 vn,.int .i64 vm,.string ⟨vcl.toArray⟩,.string ⟨vnm.toArray⟩,.string ⟨vds.toArray⟩,.string ⟨vtx.toArray⟩] yU);have ZB:=Z' (ZC.out.below ZY);have Xb:=Z' (heap_alloc_last w9 (.cells #[.int .u8 (vop:Nat),.int .i64 vn,.int .i64 vm,.string ⟨vcl.toArray⟩,.string ⟨vnm.toArray⟩,.string ⟨vds.toArray⟩,.string ⟨vtx.toArray⟩] yU));clear ZY ZC;generalize w9.alloc _=wc at*;generalize w9.heap.size=gx at*
  cases ok
  ·have VN:=Z' (show L.all (ww K)=false by
    rw[List.all_eq_false];exact⟨r,Wb.out,by rw[<-WT.out];decide⟩)
   have YC:=Z' (HC.out.zw ZB.out.k)
   go_upto_region 10 with fail
   refine wp_region_lit ?_;refine xN rfl _ _ rfl _ rfl _ _ _ _ ZB.out.o underlying59 rfl xM ?_;refine wpList_store_row rfl _ _ _ rfl _ _ rfl rfl _ _ YC.out xM rfl (uU _) ?_
   go_wp2_with fail
   refine bodyPost_ret (x8 rfl _ _ (w.heap.size+1) yT (UM.cells _).toArray (0,0) _ rfl (setRow_heap _ _ _ _ _ _ YC.out) underlying59 rfl xM) rfl ?_;exact⟨_,false,rfl,(by rw[WU.out,VN.out];simp),(fun h=>absurd h (by decide)),ws (HC.out.bw ZB.out.k) (by omega) _⟩
  have z0:=y8 Xb.out 0 rfl;have z1:=y8 Xb.out 1 rfl;have z2:=y8 Xb.out 2 rfl;have z3:=y8 Xb.out 3 rfl;have z4:=y8 Xb.out 4 rfl;have z5:=y8 Xb.out 5 rfl;have z6:=y8 Xb.out 6 rfl;have o5:=y8 ZB.out.o 5 rfl;dsimp only[UM.cells]at o5;have XM:x.cn<=65536:=by rw[Wz.out];omega
  go_wp2_with (at_builtin;refine wU kh rfl _ _ rfl w3.heap.size _ x.cn _ rfl ZB.out.w.code _ 1 _ _ rfl rfl rfl rfl (by omega) (by unfold maxLen;omega) ZB.out.k.size ?_;intro v9 w9 Z0 ZA ZK;have ZU:=yd.app ZB.out.w.code ZA;have ZW:w9.ownsRow w3.heap.size yU 7 v9 (x.cn+1) ((x.code++[(⟨vop,vn,vm,vcl,vnm,vds,vtx⟩:IN)]).flatMap IN.cells):=(by rw[List.flatMap_append];exact Z0);obtain⟨a9,c9,rfl,-,-⟩:=Ss.ofOwn IN.cells_length (by decide) ZW;have Yc:yZ (fun k=>w3.heap.size<=k) wc w9:=yZ.ofB ZK (Nat.le_trans (by simp) ZA.size);have ZC:=Z' (ZB.out.app Yc ZU (ZB.out.w.code1 ZU ZW) HC.out.gs);have fo:=xQ ZC.out.2.1 5;have lto:=yG ZC.out.2.1;have co:=y8 ZC.out.2.1 5 rfl;dsimp only[UM.cells]at co;clear Z0 ZW ZA ZK ZU Yc)
  have YE:=ZC.out.2.2 5 (.slice a9 (x.cn+1) c9) rfl;have YM:=Z' (UM.p_code1 HX.out a9 (x.cn+1) c9 (⟨vop,vn,vm,vcl,vnm,vds,vtx⟩:IN));have Yj:=Z' YE
  have XX:=Z' (show UM.p {x with ca:=a9,cn:=x.cn+1,cc:=c9,code:=x.code++[(⟨vop,vn,vm,vcl,vnm,vds,vtx⟩:IN)]}=⟨sb,NM,DS,m.st,m.lo,none,0,0,(L.take (j+1)).map (xT K L),none,0,0,[],none,0,0,[]⟩ by
   rw[YM.out,YW.out,List.map_append,List.map_singleton,<-CF.out (by trivial)])
  have XP:=Z' (show(L.take (j+1)).all (ww K)=true by
   rw[YW.out,List.all_append,HE.out];simp[<-WT.out])
  clear YE YM ZC HX HE ZB Xb WT CF fo lto co z0 z1 z2 z3 z4 z5 z6 o5;go_roundg (ln-(j+1))
  case measure=>omega
  exact⟨j+1,_,by omega,rfl,by go_num,XP,XX,Yj⟩
 obtain rfl:ln=j:=by omega
 have ZV:L.take ln=L:=List.take_of_length_le (by rw[HC.out.rs.1];exact Nat.le_refl _);rw[ZV]at HE HX;clear ZX;have c6:=y8 (HC.out.mw HJ.out.k) 6 rfl;dsimp only[KM.cells]at c6
 go_wp2_with fail
 go_loopg [88] m.tn (fun gn i JT=>∃(jt:Nat) (x5:UM),jt<=m.tn/\gn=m.tn-jt/\i= .int .i64 jt/\Hid ((m.traps.take jt).all (vq K L m.cn)=true)/\Hid (x5.p=⟨sb,NM,DS,m.st,m.lo,none,0,0,L.map (xT K L),none,0,0,(m.traps.take jt).map (vU K L m.cn),none,0,0,[]⟩)/\Hid (RmJ w w3 JT x5))
 case atStart=>exact⟨0,x,by omega,by omega,by go_num,Z' (by simp),Z' (by rw[HX.out];rfl),HJ⟩
 clear HJ HX c6;obtain⟨jt,x5,DW,rfl,rfl,T5,Wa,Yb⟩:=hrel;by_cases ZX:jt<m.tn
 ·have WH:x5.traps.length=jt:=by
   have h1:=congrArg (fun u=>u.traps.length) Wa.out;have h2:=HM.out.traps.1;simp only[UM.p,List.length_map,List.length_take]at h1;omega
  have Yf:x5.tn=jt:=by
   obtain⟨a9,c9,e9,h9,_⟩:=Ss.ofOwn UT.cells_length (by decide) Yb.out.w.traps
   cases e9
   rw[<-WH];exact h9.1.symm
  have Wz:=Z' Yf;have HS:=Z' (HM.out.below (HC.out.bw Yb.out.k)).traps;have XZ:(jt:Int)<m.tn:=by omega
  have Ba:=WF.out;obtain⟨bq,ofq,t,Ym,Zu,hs,q⟩:=HS.out.getC jt ZX;have q0:=q 0 (by omega);have q1:=q 1 (by omega);have q2:=q 2 (by omega);have q3:=q 3 (by omega);rw[Nat.add_zero]at q0;simp only[KT.cells,List.getElem?_cons_zero,List.getElem?_cons_succ]at q0 q1 q2 q3
  have YW:=Z' (show m.traps.take (jt+1)=m.traps.take jt++[t] by
   have YP:=(Z4 hs).1;rw[List.take_succ_eq_append_getElem YP,(Z4 hs).2])
  have BT:=Z' (List.mem_of_getElem? hs);clear hs q ZX HS WH Yf
  go_upto_region 16 with fail
  have Yy:=yV wr (.cells #[.int .i64 t.fr,.int .i64 t.tt,.int .i64 t.pl,.int .i64 t.cl] 123);have Zc:=Z' (Yb.out.below Yy);have XN:=Z9 ((wr.alloc (.cells #[.int .i64 t.fr,.int .i64 t.tt,.int .i64 t.pl,.int .i64 t.cl] 123)).heap[wr.heap.size]? =some (.cells t.cells.toArray 123 (0,0))) (heap_alloc_last wr (.cells #[.int .i64 t.fr,.int .i64 t.tt,.int .i64 t.pl,.int .i64 t.cl] 123));clear Yy Yb q0 q1 q2 q3 Ym Zu;generalize wr.alloc _=w6 at*;generalize wr.heap.size=gt at*;obtain⟨d1,u1⟩:=mC Jq.out m.cn t.fr;obtain⟨d2,u2⟩:=E5k Jq.out m.cn t.tt;obtain⟨d3,u3⟩:=mC Jq.out m.cn t.pl;have Xs:=Z' (fun V hl=>qF V la ln lc L t.fr hl Xx.out);have Wx:=Z' (fun V hl=>qF V la ln lc L t.tt hl Xx.out);have WC:=Z' (fun V hl=>qF V la ln lc L t.pl hl Xx.out)
  have My:=Z9 (vU K L m.cn t=⟨(plV L m.cn t.fr false:Nat),(plV L m.cn t.tt true:Nat),(plV L m.cn t.pl false:Nat),if t.cl=0 then []else(yQ K t.cl).1⟩) rfl
  have TW:=Z9 (vq K L m.cn t=(plC L m.cn t.fr false&&(plC L m.cn t.tt true&&(plC L m.cn t.pl false&&(decide (t.cl=0)||aclsB K t.cl false))))) rfl;have NJ:=Z' HC.out.rs.1
  have D9:∃v2e:Int,v2e=(if t.tt=(m.cn:Int)then(L.length:Int)else vv L t.tt):=⟨_,rfl⟩
  obtain⟨v2e,MC⟩:=D9;rw[<-MC]at d2 u2;have KU:=Z' MC;clear MC;generalize plC L m.cn t.fr false=c1 at*;generalize plC L m.cn t.tt true=c2 at*;generalize plC L m.cn t.pl false=c3 at*;generalize plV L m.cn t.fr false=y1 at*;generalize plV L m.cn t.tt true=y2 at*;generalize plV L m.cn t.pl false=y3 at*;generalize vv L t.fr=v1 at*;generalize vv L t.tt=v2 at*;generalize vv L t.pl=v3 at*;have HU:=Z' (And.intro u1 (And.intro u2 u3));have HD:=Z' (And.intro d1 (And.intro d2 d3));clear u1 u2 u3 d1 d2 d3
  go_cut [15] (fun ze wx=>∃gx:Nat,ze= .pointer (some ⟨gx,0,none⟩)/\w6.heap.size<=gx/\Hid (Below w6.heap.size w6 wx)/\Hid (wx.heap[gx]? =some (.cells (UT.cells ⟨v1,v2,v3,[]⟩).toArray 85 (0,0))))
  case first=>
   have Vn:=Z' (HC.out.rsw Zc.out.k);have Zp:=Z9 (Below w6.heap.size w6 w6.drew) ((Below.refl w6.heap.size w6).drew);have Z3:Q15 gt t w6.drew:=XN.out;have l0:=fun z (h:Q15 gt t z)=>y8 h 0 rfl
   have l1:=fun z (h:Q15 gt t z)=>y8 h 1 rfl
   have l2:=fun z (h:Q15 gt t z)=>y8 h 2 rfl
   dsimp only[KT.cells]at l0 l1 l2
   refine ye (Q15 gt t) (.of [(0,true),(1,true),(2,true),(4,true),(5,true),(6,true),(8,true),(9,true),(10,true)] (.fork 3 (.fork 7 (.fork 11 (.of [(12,true),(13,false),(14,false)] (.stir [])) 13 (.of [(11,false),(12,true),(14,false)] (.stir []))) 13 (.of [(7,false),(11,false),(12,true),(14,false)] (.stir []))) 13 (.of [(3,false),(7,false),(11,false),(12,true),(14,false)] (.stir [])))) (by kernel_rfl) (by kernel_rfl) (fun c a d v w h=>by cases d<;>exact h) ?_
   obtain⟨V0,N6⟩:∃V,V=w6.drew:=⟨_,rfl⟩;rw[<-N6]at Zp Z3⊢;clear N6
   iterate 9
    refine yY fun K hK=>tkF ?_
    go_simp
    try go_bits
    refine hK _ _ ?_;clear hK K
   refine uR ?_ ?_
   ·intro K hK;refine alF ?_;go_step;refine(Xs.out V0 (Vn.out.below Zp.out)).mono ?_;rintro e V1 ⟨rfl,hb⟩;have ZZ:Q15 gt t V1:=yW Z3 hb;have ZM:=Z7 Zp hb;clear hb Z3 Zp;have Z3:=ZZ;clear ZZ;go_simp
    first|refine⟨Z3,hK _ _ ?_⟩|refine hK _ _ ?_
    clear hK K;refine uR ?_ ?_
    ·intro K hK;refine alF ?_;go_step;refine(Wx.out V1 (Vn.out.below ZM.out)).mono ?_;rintro e V2 ⟨rfl,hb⟩;have ZZ:Q15 gt t V2:=yW Z3 hb;have ZT:=Z7 ZM hb;clear hb Z3 ZM;have Z3:=ZZ;clear ZZ;go_simp
     first|refine⟨Z3,hK _ _ ?_⟩|refine hK _ _ ?_
     clear hK K;refine uR ?_ ?_
     ·intro K hK;refine alF ?_;go_step;refine(WC.out V2 (Vn.out.below ZT.out)).mono ?_;rintro e V3 ⟨rfl,hb⟩;have ZZ:Q15 gt t V3:=yW Z3 hb;have ZG:=Z7 ZT hb;clear hb Z3 ZT;have Z3:=ZZ;clear ZZ;go_simp
      first|refine⟨Z3,hK _ _ ?_⟩|refine hK _ _ ?_
      clear hK K
      iterate 1
       refine yY fun K hK=>tkF ?_
       go_simp
       try go_bits
       refine hK _ _ ?_;clear hK K
      refine yY fun K hK=>alF ?_
      go_step;have ZY:=yV V3 (.cells #[.int .i64 0,.int .i64 0,.int .i64 0,.string ⟨#[]⟩] 85);have ZZ:Q15 gt t (V3.alloc (.cells #[.int .i64 0,.int .i64 0,.int .i64 0,.string ⟨#[]⟩] 85)):=yW Z3 ZY;refine⟨ZZ,hK _ _ ?_⟩;clear hK K Z3;have Z3:=ZZ;have HG:=Z' (heap_alloc_last V3 (.cells #[.int .i64 0,.int .i64 0,.int .i64 0,.string ⟨#[]⟩] 85));have Yu:w6.heap.size<=V3.heap.size:=ZG.out.size;have YY:=Z7 ZG ZY;clear ZZ ZY ZG;generalize V3.alloc _=V4 at*;generalize V3.heap.size=gx at*;refine yY fun K hK=>alF ?_
      refine wp_store_row 85 _ _ rfl gx (UT.cells ⟨v1,v2,v3,[]⟩).toArray rfl rfl 85 (UT.cells ⟨0,0,0,[]⟩).toArray HG.out sy rfl (r5 _) ?_;have Sr:=Z' (ws YY.out Yu (UT.cells ⟨v1,v2,v3,[]⟩).toArray);have Vu:=Z' (setRow_heap V4 gx _ (UT.cells ⟨v1,v2,v3,[]⟩).toArray _ _ HG.out);have ZZ:Q15 gt t (V4.setRow gx (UT.cells ⟨v1,v2,v3,[]⟩).toArray):=yW XN.out Sr.out;refine⟨ZZ,hK _ _ ?_⟩;clear hK K HG Z3;generalize V4.setRow gx (UT.cells ⟨v1,v2,v3,[]⟩).toArray=VZ at*;refine yA (fun y=>y=VZ) (fun y hy=>hy▸ZZ) rfl ?_;refine yE (fun y hy=> ?_);obtain rfl:VZ=y:=Eq.symm hy;clear ZZ
      go_wp2_with fail
      go_meet;exact⟨gx,rfl,Yu,Sr,Vu⟩
     intro K hK;refine alF ?_;go_step;have ZY:=yV V2 (.cells #[.int .i64 0,.int .i64 0,.int .i64 0,.string ⟨#[]⟩] 85);have ZZ:Q15 gt t (V2.alloc (.cells #[.int .i64 0,.int .i64 0,.int .i64 0,.string ⟨#[]⟩] 85)):=yW Z3 ZY;refine⟨ZZ,hK _ _ ?_⟩;clear hK K Z3;have Z3:=ZZ;have HG:=Z' (heap_alloc_last V2 (.cells #[.int .i64 0,.int .i64 0,.int .i64 0,.string ⟨#[]⟩] 85));have Yu:w6.heap.size<=V2.heap.size:=ZT.out.size;have ZG:=Z7 ZT ZY;clear ZZ ZY ZT;generalize V2.alloc _=V3 at*;generalize V2.heap.size=gx at*;refine yY fun K hK=>alF ?_
     go_step;refine(WC.out V3 (Vn.out.below ZG.out)).mono ?_;rintro e V4 ⟨rfl,hb⟩;have ZZ:Q15 gt t V4:=yW Z3 hb;replace HG:=Z' (yW HG.out hb);have YY:=Z7 ZG hb;clear hb Z3 ZG;have Z3:=ZZ;clear ZZ;go_simp
     first|refine⟨Z3,hK _ _ ?_⟩|refine hK _ _ ?_
     clear hK K
     iterate 1
      refine yY fun K hK=>tkF ?_
      go_simp
      try go_bits
      refine hK _ _ ?_;clear hK K
     refine yY fun K hK=>alF ?_
     refine wp_store_row 85 _ _ rfl gx (UT.cells ⟨v1,v2,v3,[]⟩).toArray rfl rfl 85 (UT.cells ⟨0,0,0,[]⟩).toArray HG.out sy rfl (r5 _) ?_;have Sr:=Z' (ws YY.out Yu (UT.cells ⟨v1,v2,v3,[]⟩).toArray);have Vu:=Z' (setRow_heap V4 gx _ (UT.cells ⟨v1,v2,v3,[]⟩).toArray _ _ HG.out);have ZZ:Q15 gt t (V4.setRow gx (UT.cells ⟨v1,v2,v3,[]⟩).toArray):=yW XN.out Sr.out;refine⟨ZZ,hK _ _ ?_⟩;clear hK K HG Z3;generalize V4.setRow gx (UT.cells ⟨v1,v2,v3,[]⟩).toArray=VZ at*;refine yA (fun y=>y=VZ) (fun y hy=>hy▸ZZ) rfl ?_;refine yE (fun y hy=> ?_);obtain rfl:VZ=y:=Eq.symm hy;clear ZZ
     go_wp2_with fail
     go_meet;exact⟨gx,rfl,Yu,Sr,Vu⟩
    intro K hK;refine alF ?_;go_step;have ZY:=yV V1 (.cells #[.int .i64 0,.int .i64 0,.int .i64 0,.string ⟨#[]⟩] 85);have ZZ:Q15 gt t (V1.alloc (.cells #[.int .i64 0,.int .i64 0,.int .i64 0,.string ⟨#[]⟩] 85)):=yW Z3 ZY;refine⟨ZZ,hK _ _ ?_⟩;clear hK K Z3;have Z3:=ZZ;have HG:=Z' (heap_alloc_last V1 (.cells #[.int .i64 0,.int .i64 0,.int .i64 0,.string ⟨#[]⟩] 85));have Yu:w6.heap.size<=V1.heap.size:=ZM.out.size;have ZT:=Z7 ZM ZY;clear ZZ ZY ZM;generalize V1.alloc _=V2 at*;generalize V1.heap.size=gx at*;refine yY fun K hK=>alF ?_
    go_step;refine(Wx.out V2 (Vn.out.below ZT.out)).mono ?_;rintro e V3 ⟨rfl,hb⟩;have ZZ:Q15 gt t V3:=yW Z3 hb;replace HG:=Z' (yW HG.out hb);have ZG:=Z7 ZT hb;clear hb Z3 ZT;have Z3:=ZZ;clear ZZ;go_simp
    first|refine⟨Z3,hK _ _ ?_⟩|refine hK _ _ ?_
    clear hK K;refine yY fun K hK=>alF ?_
    go_step;refine(WC.out V3 (Vn.out.below ZG.out)).mono ?_;rintro e V4 ⟨rfl,hb⟩;have ZZ:Q15 gt t V4:=yW Z3 hb;replace HG:=Z' (yW HG.out hb);have YY:=Z7 ZG hb;clear hb Z3 ZG;have Z3:=ZZ;clear ZZ;go_simp
    first|refine⟨Z3,hK _ _ ?_⟩|refine hK _ _ ?_
    clear hK K
    iterate 1
     refine yY fun K hK=>tkF ?_
     go_simp
     try go_bits
     refine hK _ _ ?_;clear hK K
    refine yY fun K hK=>alF ?_
    refine wp_store_row 85 _ _ rfl gx (UT.cells ⟨v1,v2,v3,[]⟩).toArray rfl rfl 85 (UT.cells ⟨0,0,0,[]⟩).toArray HG.out sy rfl (r5 _) ?_;have Sr:=Z' (ws YY.out Yu (UT.cells ⟨v1,v2,v3,[]⟩).toArray);have Vu:=Z' (setRow_heap V4 gx _ (UT.cells ⟨v1,v2,v3,[]⟩).toArray _ _ HG.out);have ZZ:Q15 gt t (V4.setRow gx (UT.cells ⟨v1,v2,v3,[]⟩).toArray):=yW XN.out Sr.out;refine⟨ZZ,hK _ _ ?_⟩;clear hK K HG Z3;generalize V4.setRow gx (UT.cells ⟨v1,v2,v3,[]⟩).toArray=VZ at*;refine yA (fun y=>y=VZ) (fun y hy=>hy▸ZZ) rfl ?_;refine yE (fun y hy=> ?_);obtain rfl:VZ=y:=Eq.symm hy;clear ZZ
    go_wp2_with fail
    go_meet;exact⟨gx,rfl,Yu,Sr,Vu⟩
   intro K hK;refine alF ?_;go_step;have ZY:=yV V0 (.cells #[.int .i64 0,.int .i64 0,.int .i64 0,.string ⟨#[]⟩] 85);have ZZ:Q15 gt t (V0.alloc (.cells #[.int .i64 0,.int .i64 0,.int .i64 0,.string ⟨#[]⟩] 85)):=yW Z3 ZY;refine⟨ZZ,hK _ _ ?_⟩;clear hK K Z3;have Z3:=ZZ;have HG:=Z' (heap_alloc_last V0 (.cells #[.int .i64 0,.int .i64 0,.int .i64 0,.string ⟨#[]⟩] 85));have Yu:w6.heap.size<=V0.heap.size:=Zp.out.size;have ZM:=Z7 Zp ZY;clear ZZ ZY Zp;generalize V0.alloc _=V1 at*;generalize V0.heap.size=gx at*;refine yY fun K hK=>alF ?_
   go_step;refine(Xs.out V1 (Vn.out.below ZM.out)).mono ?_;rintro e V2 ⟨rfl,hb⟩;have ZZ:Q15 gt t V2:=yW Z3 hb;replace HG:=Z' (yW HG.out hb);have ZT:=Z7 ZM hb;clear hb Z3 ZM;have Z3:=ZZ;clear ZZ;go_simp
   first|refine⟨Z3,hK _ _ ?_⟩|refine hK _ _ ?_
   clear hK K;refine yY fun K hK=>alF ?_
   go_step;refine(Wx.out V2 (Vn.out.below ZT.out)).mono ?_;rintro e V3 ⟨rfl,hb⟩;have ZZ:Q15 gt t V3:=yW Z3 hb;replace HG:=Z' (yW HG.out hb);have ZG:=Z7 ZT hb;clear hb Z3 ZT;have Z3:=ZZ;clear ZZ;go_simp
   first|refine⟨Z3,hK _ _ ?_⟩|refine hK _ _ ?_
   clear hK K;refine yY fun K hK=>alF ?_
   go_step;refine(WC.out V3 (Vn.out.below ZG.out)).mono ?_;rintro e V4 ⟨rfl,hb⟩;have ZZ:Q15 gt t V4:=yW Z3 hb;replace HG:=Z' (yW HG.out hb);have YY:=Z7 ZG hb;clear hb Z3 ZG;have Z3:=ZZ;clear ZZ;go_simp
   first|refine⟨Z3,hK _ _ ?_⟩|refine hK _ _ ?_
   clear hK K
   iterate 1
    refine yY fun K hK=>tkF ?_
    go_simp
    try go_bits
    refine hK _ _ ?_;clear hK K
   refine yY fun K hK=>alF ?_
   refine wp_store_row 85 _ _ rfl gx (UT.cells ⟨v1,v2,v3,[]⟩).toArray rfl rfl 85 (UT.cells ⟨0,0,0,[]⟩).toArray HG.out sy rfl (r5 _) ?_;have Sr:=Z' (ws YY.out Yu (UT.cells ⟨v1,v2,v3,[]⟩).toArray);have Vu:=Z' (setRow_heap V4 gx _ (UT.cells ⟨v1,v2,v3,[]⟩).toArray _ _ HG.out);have ZZ:Q15 gt t (V4.setRow gx (UT.cells ⟨v1,v2,v3,[]⟩).toArray):=yW XN.out Sr.out;refine⟨ZZ,hK _ _ ?_⟩;clear hK K HG Z3;generalize V4.setRow gx (UT.cells ⟨v1,v2,v3,[]⟩).toArray=VZ at*;refine yA (fun y=>y=VZ) (fun y hy=>hy▸ZZ) rfl ?_;refine yE (fun y hy=> ?_);obtain rfl:VZ=y:=Eq.symm hy;clear ZZ
   go_wp2_with fail
   go_meet;exact⟨gx,rfl,Yu,Sr,Vu⟩
  obtain⟨gx,rfl,Yu,XB,VR⟩:=hcut;clear Xs Wx WC;have Xz:=Z' (yW XN.out XB.out);have CQ:=y8 Xz.out 1 rfl;have YB:=Z' (Zc.out.below XB.out);have c5:=y8 (HC.out.mw YB.out.k) 5 rfl;dsimp only[KT.cells,KM.cells]at CQ c5
  go_upto_if 110 with fail
  go_cut [] (fun wx=>Hid (Below w6.heap.size w6 wx)/\Hid (wx.heap[gx]? =some (.cells (UT.cells ⟨v1,v2e,v3,[]⟩).toArray 85 (0,0))))
  case first=>
   by_cases h0:t.tt=(m.cn:Int)
   ·have e0:(t.tt==(m.cn:Int))=true:=by simp[h0]
    have US:=Z' (KU.out.trans (if_pos h0));rw[NJ.out]at US;clear h0;have f1:=xQ VR.out 1;have z1:=y8 VR.out 1 rfl;have lz:=yG VR.out;dsimp only[UT.cells]at z1
    go_wp2_with fail
    go_meet;exact⟨Z' (XB.out.setCell (p:=⟨gx,1,none⟩) Yu _),Z' (by rw[US.out];exact wZ VR.out 1 _)⟩
   have e0:(t.tt==(m.cn:Int))=false:=by simp[h0]
   have US:=Z' (KU.out.trans (if_neg h0));clear h0
   go_wp2_with fail
   go_meet;exact⟨XB,Z' (by rw[US.out];exact VR.out)⟩
  clear XB VR Xz YB CQ c5;obtain⟨XB,VR⟩:=hcut;have Xz:=Z' (yW XN.out XB.out);have LP:=y8 Xz.out 3 rfl;dsimp only[KT.cells]at LP
  go_upto_if 116 with fail
  obtain⟨cl,XM⟩:=Z8 (if t.cl=0 then []else(yQ K t.cl).1)
  have Se:=Z' XM;clear XM
  go_cut [] (fun wx=>Hid (Below w6.heap.size w6 wx)/\Hid (wx.heap[gx]? =some (.cells (UT.cells ⟨v1,v2e,v3,cl⟩).toArray 85 (0,0))))
  case first=>
   by_cases h0:t.cl=0
   ·have e0:(t.cl !=0)=false:=by simp[h0]
    have US:=Z' (Se.out.trans (if_pos h0));clear h0
    go_wp2_with fail
    go_meet;exact⟨XB,Z' (by rw[US.out];exact VR.out)⟩
   have e0:(t.cl !=0)=true:=by simp[h0]
   have US:=Z' (Se.out.trans (if_neg h0));clear h0;have Y4:=Z' (rV wc (some ⟨b,off,none⟩) n cap K t.cl (Xu.out.below (HC.out.bw (Zc.out.below XB.out).k)) Zg.out);unfold uK at Y4;rw[<-US.out]at Y4;generalize(yQ K t.cl).2=cb at*
   go_wp2_with fail
   refine Y4.out.mono ?_;rintro e w8 ⟨rfl,EL⟩;obtain rfl:wc=w8:=EL;have f3:=xQ VR.out 3;have z3:=y8 VR.out 3 rfl;have lz:=yG VR.out;dsimp only[UT.cells]at z3
   go_wp2_with fail
   go_meet;exact⟨Z' (XB.out.setCell (p:=⟨gx,3,none⟩) Yu _),Z' (wZ VR.out 3 _)⟩
  clear XB VR Xz LP;obtain⟨XB,VR⟩:=hcut;have Xz:=Z' (yW XN.out XB.out);have LP:=y8 Xz.out 3 rfl;have ZB:=Z' (Zc.out.below XB.out);have z0:=y8 VR.out 0 rfl;have z1:=y8 VR.out 1 rfl;have z2:=y8 VR.out 2 rfl;have z3:=y8 VR.out 3 rfl;dsimp only[KT.cells,UT.cells]at LP z0 z1 z2 z3;obtain⟨d1,d2,d3⟩:=HD.out
  have Xy:=Z9 (∀h:vq K L m.cn t=false,m.traps.all (vq K L m.cn)=false) (fun h=>by
   rw[List.all_eq_false];exact⟨t,BT.out,by rw[h];decide⟩)
  cases c1
  ·have WL:=Z' (Xy.out (by rw[TW.out];rfl));have YC:=Z' (HC.out.zw ZB.out.k)
   go_upto_region 22 with fail
   refine wp_region_lit ?_;refine xN rfl _ _ rfl _ rfl _ _ _ _ ZB.out.o underlying59 rfl xM ?_;refine wpList_store_row rfl _ _ _ rfl _ _ rfl rfl _ _ YC.out xM rfl (uU _) ?_
   go_wp2_with fail
   refine bodyPost_ret (x8 rfl _ _ (w.heap.size+1) yT (UM.cells _).toArray (0,0) _ rfl (setRow_heap _ _ _ _ _ _ YC.out) underlying59 rfl xM) rfl ?_;exact⟨_,false,rfl,(by rw[WU.out,WL.out];simp),(fun h=>absurd h (by decide)),ws (HC.out.bw ZB.out.k) (by omega) _⟩
  cases c2
  ·have WL:=Z' (Xy.out (by rw[TW.out];rfl));have YC:=Z' (HC.out.zw ZB.out.k)
   go_upto_region 22 with fail
   refine wp_region_lit ?_;refine xN rfl _ _ rfl _ rfl _ _ _ _ ZB.out.o underlying59 rfl xM ?_;refine wpList_store_row rfl _ _ _ rfl _ _ rfl rfl _ _ YC.out xM rfl (uU _) ?_
   go_wp2_with fail
   refine bodyPost_ret (x8 rfl _ _ (w.heap.size+1) yT (UM.cells _).toArray (0,0) _ rfl (setRow_heap _ _ _ _ _ _ YC.out) underlying59 rfl xM) rfl ?_;exact⟨_,false,rfl,(by rw[WU.out,WL.out];simp),(fun h=>absurd h (by decide)),ws (HC.out.bw ZB.out.k) (by omega) _⟩
  cases c3
  ·have WL:=Z' (Xy.out (by rw[TW.out];rfl));have YC:=Z' (HC.out.zw ZB.out.k)
   go_upto_region 22 with fail
   refine wp_region_lit ?_;refine xN rfl _ _ rfl _ rfl _ _ _ _ ZB.out.o underlying59 rfl xM ?_;refine wpList_store_row rfl _ _ _ rfl _ _ rfl rfl _ _ YC.out xM rfl (uU _) ?_
   go_wp2_with fail
   refine bodyPost_ret (x8 rfl _ _ (w.heap.size+1) yT (UM.cells _).toArray (0,0) _ rfl (setRow_heap _ _ _ _ _ _ YC.out) underlying59 rfl xM) rfl ?_;exact⟨_,false,rfl,(by rw[WU.out,WL.out];simp),(fun h=>absurd h (by decide)),ws (HC.out.bw ZB.out.k) (by omega) _⟩
  have Q5:Hid ((decide (t.cl=0)||aclsB K t.cl false)=(decide (t.cl=0)||classB cl)):=Z' (by
   by_cases h0:t.cl=0
   ·simp[h0]
   ·rw[qA,Se.out,if_neg h0];simp)
  rw[Q5.out]at TW
  have Jv:cl.length<=65536:=by
   rw[Se.out];split
   ·simp
   exact uj Yn.out _
  have RL:=Z' (tu wc cl (by omega));by_cases h0:t.cl=0
  case pos=>
   have e0:(t.cl !=0)=false:=by simp[h0]
   have P4:=Z' (show vq K L m.cn t=true by rw[TW.out,decide_eq_true h0];rfl);clear h0 Xy TW RL Jv;have o6:=y8 ZB.out.o 6 rfl;dsimp only[UM.cells]at o6;have XM:x5.tn<=65536:=by have h1:=Wz.out;have h2:=WF.out;omega
   go_wp2_with (at_builtin;refine wU kK rfl _ _ rfl w3.heap.size _ x5.tn _ rfl ZB.out.w.traps _ 1 _ _ rfl rfl rfl rfl (by omega) (by unfold maxLen;omega) ZB.out.k.size ?_;intro v9 w9 Z0 ZA ZK;have ZU:=yd.app ZB.out.w.traps ZA;have ZW:w9.ownsRow w3.heap.size 85 4 v9 (x5.tn+1) ((x5.traps++[(⟨v1,v2e,v3,cl⟩:UT)]).flatMap UT.cells):=(by rw[List.flatMap_append];exact Z0);obtain⟨a9,c9,rfl,-,-⟩:=Ss.ofOwn UT.cells_length (by decide) ZW;have Yc:yZ (fun k=>w3.heap.size<=k) wc w9:=yZ.ofB ZK (Nat.le_trans (by simp) ZA.size);have ZC:=Z' (ZB.out.app Yc ZU (ZB.out.w.traps1 ZU ZW) HC.out.gs);have fo:=xQ ZC.out.2.1 6;have lto:=yG ZC.out.2.1;have co:=y8 ZC.out.2.1 6 rfl;dsimp only[UM.cells]at co;clear Z0 ZW ZA ZK ZU Yc)
   have YE:=ZC.out.2.2 6 (.slice a9 (x5.tn+1) c9) rfl;have YM:=Z' (UM.p_traps1 Wa.out a9 (x5.tn+1) c9 (⟨v1,v2e,v3,cl⟩:UT));have Yj:=Z' YE
   have XX:=Z' (show UM.p {x5 with ta:=a9,tn:=x5.tn+1,tc:=c9,traps:=x5.traps++[(⟨v1,v2e,v3,cl⟩:UT)]}=⟨sb,NM,DS,m.st,m.lo,none,0,0,L.map (xT K L),none,0,0,(m.traps.take (jt+1)).map (vU K L m.cn),none,0,0,[]⟩ by
    rw[YM.out,YW.out,List.map_append,List.map_singleton,My.out,<-Se.out,HU.out.1 (by trivial),HU.out.2.1 (by trivial),HU.out.2.2 (by trivial)])
   have XP:=Z' (show(m.traps.take (jt+1)).all (vq K L m.cn)=true by
    rw[YW.out,List.all_append,T5.out];simp[P4.out])
   clear YE YM ZC Wa T5 ZB Zc VR Xz XB XN P4 fo lto co z0 z1 z2 z3 o6 LP d1 d2 d3 My HU HD;go_roundg (m.tn-(jt+1))
   case measure=>omega
   exact⟨jt+1,_,by omega,rfl,by go_num,XP,XX,Yj⟩
  have e0:(t.cl !=0)=true:=by simp[h0]
  rw[decide_eq_false h0]at TW;clear h0;generalize classB cl=bc at*
  go_wp2_with fail
  refine RL.out.mono ?_;rintro e w9 ⟨rfl,VK⟩;obtain rfl:wc=w9:=Eq.symm VK
  cases bc
  ·have WL:=Z' (Xy.out (by rw[TW.out];rfl));have YC:=Z' (HC.out.zw ZB.out.k)
   go_upto_region 22 with fail
   refine wp_region_lit ?_;refine xN rfl _ _ rfl _ rfl _ _ _ _ ZB.out.o underlying59 rfl xM ?_;refine wpList_store_row rfl _ _ _ rfl _ _ rfl rfl _ _ YC.out xM rfl (uU _) ?_
   go_wp2_with fail
   refine bodyPost_ret (x8 rfl _ _ (w.heap.size+1) yT (UM.cells _).toArray (0,0) _ rfl (setRow_heap _ _ _ _ _ _ YC.out) underlying59 rfl xM) rfl ?_;exact⟨_,false,rfl,(by rw[WU.out,WL.out];simp),(fun h=>absurd h (by decide)),ws (HC.out.bw ZB.out.k) (by omega) _⟩
  have P4:=Z' (show vq K L m.cn t=true by rw[TW.out];rfl);clear Xy TW RL Jv;have o6:=y8 ZB.out.o 6 rfl;dsimp only[UM.cells]at o6;have XM:x5.tn<=65536:=by have h1:=Wz.out;have h2:=WF.out;omega
  go_wp2_with (at_builtin;refine wU kK rfl _ _ rfl w3.heap.size _ x5.tn _ rfl ZB.out.w.traps _ 1 _ _ rfl rfl rfl rfl (by omega) (by unfold maxLen;omega) ZB.out.k.size ?_;intro v9 w9 Z0 ZA ZK;have ZU:=yd.app ZB.out.w.traps ZA;have ZW:w9.ownsRow w3.heap.size 85 4 v9 (x5.tn+1) ((x5.traps++[(⟨v1,v2e,v3,cl⟩:UT)]).flatMap UT.cells):=(by rw[List.flatMap_append];exact Z0);obtain⟨a9,c9,rfl,-,-⟩:=Ss.ofOwn UT.cells_length (by decide) ZW;have Yc:yZ (fun k=>w3.heap.size<=k) wc w9:=yZ.ofB ZK (Nat.le_trans (by simp) ZA.size);have ZC:=Z' (ZB.out.app Yc ZU (ZB.out.w.traps1 ZU ZW) HC.out.gs);have fo:=xQ ZC.out.2.1 6;have lto:=yG ZC.out.2.1;have co:=y8 ZC.out.2.1 6 rfl;dsimp only[UM.cells]at co;clear Z0 ZW ZA ZK ZU Yc)
  have YE:=ZC.out.2.2 6 (.slice a9 (x5.tn+1) c9) rfl;have YM:=Z' (UM.p_traps1 Wa.out a9 (x5.tn+1) c9 (⟨v1,v2e,v3,cl⟩:UT));have Yj:=Z' YE
  have XX:=Z' (show UM.p {x5 with ta:=a9,tn:=x5.tn+1,tc:=c9,traps:=x5.traps++[(⟨v1,v2e,v3,cl⟩:UT)]}=⟨sb,NM,DS,m.st,m.lo,none,0,0,L.map (xT K L),none,0,0,(m.traps.take (jt+1)).map (vU K L m.cn),none,0,0,[]⟩ by
   rw[YM.out,YW.out,List.map_append,List.map_singleton,My.out,<-Se.out,HU.out.1 (by trivial),HU.out.2.1 (by trivial),HU.out.2.2 (by trivial)])
  have XP:=Z' (show(m.traps.take (jt+1)).all (vq K L m.cn)=true by
   rw[YW.out,List.all_append,T5.out];simp[P4.out])
  clear YE YM ZC Wa T5 ZB Zc VR Xz XB XN P4 fo lto co z0 z1 z2 z3 o6 LP d1 d2 d3 My HU HD;go_roundg (m.tn-(jt+1))
  case measure=>omega
  exact⟨jt+1,_,by omega,rfl,by go_num,XP,XX,Yj⟩
 have Td:jt=m.tn:=by omega
 have ZV:m.traps.take jt=m.traps:=List.take_of_length_le (by rw[HM.out.traps.1];omega);rw[ZV]at T5 Wa;have Wt:¬((jt:Int)<m.tn):=by omega
 clear Td;have c7:=y8 (HC.out.mw Yb.out.k) 7 rfl;dsimp only[KM.cells]at c7
 have KA:=Z' (show vC K m=⟨sb,NM,DS,m.st,m.lo,none,0,0,L.map (xT K L),none,0,0,m.traps.map (vU K L m.cn),none,0,0,m.maps.map (uM K L m.cn)⟩ by
  unfold vC;rw[KX.out,JV.out,HR.out,VP.out])
 go_wp2_with fail
 go_loopg [160] m.mn (fun gn i Ey=>∃(jp:Nat) (x9:UM),jp<=m.mn/\gn=m.mn-jp/\i= .int .i64 jp/\Hid ((m.maps.take jp).all (vj K L m.cn)=true)/\Hid (x9.p=⟨sb,NM,DS,m.st,m.lo,none,0,0,L.map (xT K L),none,0,0,m.traps.map (vU K L m.cn),none,0,0,(m.maps.take jp).map (uM K L m.cn)⟩)/\Hid (RmJ w w3 Ey x9))
 case atStart=>exact⟨0,x5,by omega,by omega,by go_num,Z' (by simp),Z' (by rw[Wa.out];rfl),Yb⟩
 clear Yb Wa c7;obtain⟨jp,x9,zr,rfl,rfl,TG,TZ,ZC⟩:=hrel;by_cases ZX:jp<m.mn
 ·have WH:x9.maps.length=jp:=by
   have h1:=congrArg (fun u=>u.maps.length) TZ.out;have h2:=HM.out.maps.1;simp only[UM.p,List.length_map,List.length_take]at h1;omega
  have Yf:x9.mn=jp:=by
   obtain⟨a9,c9,e9,h9,_⟩:=Ss.ofOwn UP.cells_length (by decide) ZC.out.w.maps
   cases e9
   rw[<-WH];exact h9.1.symm
  have Wz:=Z' Yf;have HS:=Z' (HM.out.below (HC.out.bw ZC.out.k)).maps;have XZ:(jp:Int)<m.mn:=by omega
  have Rn:=Kh.out;obtain⟨bq,ofq,p,Ym,Zu,hs,q⟩:=HS.out.getC jp ZX;have q0:=q 0 (by omega);have q1:=q 1 (by omega);have q2:=q 2 (by omega);rw[Nat.add_zero]at q0;simp only[KP.cells,List.getElem?_cons_zero,List.getElem?_cons_succ]at q0 q1 q2
  have YW:=Z' (show m.maps.take (jp+1)=m.maps.take jp++[p] by
   have YP:=(Z4 hs).1;rw[List.take_succ_eq_append_getElem YP,(Z4 hs).2])
  have Ux:=Z' (List.mem_of_getElem? hs);obtain⟨-,s1,s2,g1,g2⟩:=jz (Bn.out p Ux.out) (HM.out.each p Ux.out);have Mi:=Z' g1;have UV:=Z' g2;clear hs q ZX HS WH Yf g1 g2
  go_upto_region 28 with fail
  have Yy:=yV wr (.cells #[.int .i64 p.pl,.slice p.la p.ln p.lc,.slice p.sa p.sn p.sc] 68);have Zc:=Z' (ZC.out.below Yy);have RY:=Z9 ((wr.alloc (.cells #[.int .i64 p.pl,.slice p.la p.ln p.lc,.slice p.sa p.sn p.sc] 68)).heap[wr.heap.size]? =some (.cells p.cells.toArray 68 (0,0))) (heap_alloc_last wr (.cells #[.int .i64 p.pl,.slice p.la p.ln p.lc,.slice p.sa p.sn p.sc] 68));clear Yy ZC q0 q1 q2 Ym Zu;generalize wr.alloc _=w6 at*;generalize wr.heap.size=gp at*;obtain⟨d1,u1⟩:=mC Jq.out m.cn p.pl;have Xs:=Z' (qF w6 la ln lc L p.pl (HC.out.rsw Zc.out.k) Xx.out);have My:=Z9 (uM K L m.cn p=⟨(plV L m.cn p.pl false:Nat),none,0,0,p.loc.map (yD K),none,0,0,p.stk.map (yD K)⟩) rfl;have TW:=Z9 (vj K L m.cn p=(plC L m.cn p.pl false&&(p.loc.all (xa K)&&p.stk.all (xa K)))) rfl;generalize plC L m.cn p.pl false=c1 at*;generalize plV L m.cn p.pl false=y1 at*;generalize vv L p.pl=ix at*;have HU:=Z' u1;have HD:=Z' d1;clear u1 d1;have p0:=y8 RY.out 0 rfl;dsimp only[KP.cells]at p0
  go_wp2_with fail
  refine Xs.out.mono ?_;rintro e w7 ⟨rfl,Xr⟩;have XB:=Z' Xr;clear Xr Xs p0
  go_upto_region 29 with fail
  have ZY:=yV w7 (.cells #[.int .i64 ix,.slice none 0 0,.slice none 0 0] 88);have RK:=Z7 XB ZY;have Xb:=Z' (heap_alloc_last w7 (.cells #[.int .i64 ix,.slice none 0 0,.slice none 0 0] 88));have Yu:w6.heap.size<=w7.heap.size:=XB.out.size;clear ZY XB;generalize w7.alloc _=w8 at*;generalize w7.heap.size=gx at*;have Hn:=Z' (yW RY.out RK.out);have Dg:=Z' ((HM.out.below (HC.out.bw (Zc.out.below RK.out).k)).each p Ux.out);have p1:=y8 Hn.out 1 rfl;dsimp only[KP.cells]at p1;have SD:=Z' (jr w8 (some ⟨b,off,none⟩) n cap K p.la p.ln p.lc p.loc (Xu.out.below (HC.out.bw (Zc.out.below RK.out).k)) Zg.out Yn.out Dg.out.loc (by omega) Mi.out)
  go_wp2_with fail
  refine SD.out.mono ?_;intro e w9 hr;obtain⟨oa,on,oc,a1,rfl,Dr,Ji,ZK⟩:=fm hr;have Wm:=Z' Dr;have Xk:=Z' Ji;have Ut:=Z7 RK ZK;have Qy:=Z' (yW Xb.out ZK);have h89:w8.heap.size<=w9.heap.size:=ZK.size;have hg8:gx<w8.heap.size:=yG Xb.out;clear hr Dr Ji ZK SD Hn Dg RK Xb p1;have f1:=xQ Qy.out 1;have z1:=y8 Qy.out 1 rfl;have lz:=yG Qy.out
  go_upto_region 31 with fail
  have Yx:=Z' (Ut.out.setCell (p:=⟨gx,1,none⟩) Yu (.slice oa on oc));have Gx:=Z' (wZ Qy.out 1 (.slice oa on oc));have Va:=Z' (fun h=>tY (Xk.out h).2 (yZ.set (yZ.refl (fun k=>k=gx) w9) (.inl rfl) 1 (.slice oa on oc)) (fun y hy=> .inl (by omega)));have CA:(w9.setCell ⟨gx,1,none⟩ (.slice oa on oc)).heap.size=w9.heap.size:=by simp[World.setCell]
  have SE:=Z' CA;clear CA f1 z1 lz Ut Qy;generalize w9.setCell ⟨gx,1,none⟩ (.slice oa on oc)=wA at*;have RF:=Z' (yW RY.out Yx.out);have Jm:=Z' ((HM.out.below (HC.out.bw (Zc.out.below Yx.out).k)).each p Ux.out);have p2:=y8 RF.out 2 rfl;dsimp only[KP.cells]at p2;have SD:=Z' (jr wA (some ⟨b,off,none⟩) n cap K p.sa p.sn p.sc p.stk (Xu.out.below (HC.out.bw (Zc.out.below Yx.out).k)) Zg.out Yn.out Jm.out.stk (by omega) UV.out)
  go_wp2_with fail
  refine SD.out.mono ?_;intro e wB hr;obtain⟨ob,om,od,a2,rfl,CT,Dh,J0⟩:=fm hr;have WP:=Z' CT;have Ts:=Z' Dh;have NP:=Z7 Yx J0;have Zh:=Z' (yW Gx.out J0);have N1:=Z' (fun h=>wE (Va.out h) J0);have hgA:gx<wA.heap.size:=yG Gx.out;have Jg:wA.heap.size<=wB.heap.size:=J0.size;clear hr CT Dh J0 SD RF Jm Yx Gx Va p2;have f2:=xQ Zh.out 2;have z2:=y8 Zh.out 2 rfl;have lz:=yG Zh.out
  go_upto_region 32 with fail
  have D1:=Z' (NP.out.setCell (p:=⟨gx,2,none⟩) Yu (.slice ob om od));have Qf:=Z9 ((wB.setCell ⟨gx,2,none⟩ (.slice ob om od)).heap[gx]? =some (.cells (UP.cells ⟨ix,oa,on,oc,p.loc.map (yD K),ob,om,od,p.stk.map (yD K)⟩).toArray 88 (0,0))) (wZ Zh.out 2 (.slice ob om od));have Cz:=Z' (fun h=>tY (N1.out h) (yZ.set (yZ.refl (fun k=>k=gx) wB) (.inl rfl) 2 (.slice ob om od)) (fun y hy=> .inl (by omega)));have JY:=Z' (fun h=>tY (Ts.out h).2 (yZ.set (yZ.refl (fun k=>k=gx) wB) (.inl rfl) 2 (.slice ob om od)) (fun y hy=> .inl (by omega)));have HON:=Z' (fun h=>(Xk.out h).1);have HOM:=Z' (fun h=>(Ts.out h).1);have h6s:w6.heap.size<=w8.heap.size:=by omega
  have h3s:w3.heap.size<=w6.heap.size:=Zc.out.k.size;clear f2 z2 lz NP Zh N1 Xk Ts;generalize wB.setCell ⟨gx,2,none⟩ (.slice ob om od)=wc at*;have ZB:=Z' (Zc.out.below D1.out);have z0:=y8 Qf.out 0 rfl;have z1:=y8 Qf.out 1 rfl;have z2:=y8 Qf.out 2 rfl;dsimp only[UP.cells]at z0 z1 z2
  have Xy:=Z9 (∀h:vj K L m.cn p=false,m.maps.all (vj K L m.cn)=false) (fun h=>by
   rw[List.all_eq_false];exact⟨p,Ux.out,by rw[h];decide⟩)
  rw[<-Wm.out,<-WP.out]at TW;have d1:=HD.out
  cases c1
  ·have WL:=Z' (Xy.out (by rw[TW.out];rfl));have YC:=Z' (HC.out.zw ZB.out.k)
   go_upto_region 33 with fail
   refine wp_region_lit ?_;refine xN rfl _ _ rfl _ rfl _ _ _ _ ZB.out.o underlying59 rfl xM ?_;refine wpList_store_row rfl _ _ _ rfl _ _ rfl rfl _ _ YC.out xM rfl (uU _) ?_
   go_wp2_with fail
   refine bodyPost_ret (x8 rfl _ _ (w.heap.size+1) yT (UM.cells _).toArray (0,0) _ rfl (setRow_heap _ _ _ _ _ _ YC.out) underlying59 rfl xM) rfl ?_;exact⟨_,false,rfl,(by rw[WU.out,WL.out];simp),(fun h=>absurd h (by decide)),ws (HC.out.bw ZB.out.k) (by omega) _⟩
  cases a1
  ·have WL:=Z' (Xy.out (by rw[TW.out];rfl));have YC:=Z' (HC.out.zw ZB.out.k)
   go_upto_region 33 with fail
   refine wp_region_lit ?_;refine xN rfl _ _ rfl _ rfl _ _ _ _ ZB.out.o underlying59 rfl xM ?_;refine wpList_store_row rfl _ _ _ rfl _ _ rfl rfl _ _ YC.out xM rfl (uU _) ?_
   go_wp2_with fail
   refine bodyPost_ret (x8 rfl _ _ (w.heap.size+1) yT (UM.cells _).toArray (0,0) _ rfl (setRow_heap _ _ _ _ _ _ YC.out) underlying59 rfl xM) rfl ?_;exact⟨_,false,rfl,(by rw[WU.out,WL.out];simp),(fun h=>absurd h (by decide)),ws (HC.out.bw ZB.out.k) (by omega) _⟩
  cases a2
  ·have WL:=Z' (Xy.out (by rw[TW.out];rfl));have YC:=Z' (HC.out.zw ZB.out.k)
   go_upto_region 33 with fail
   refine wp_region_lit ?_;refine xN rfl _ _ rfl _ rfl _ _ _ _ ZB.out.o underlying59 rfl xM ?_;refine wpList_store_row rfl _ _ _ rfl _ _ rfl rfl _ _ YC.out xM rfl (uU _) ?_
   go_wp2_with fail
   refine bodyPost_ret (x8 rfl _ _ (w.heap.size+1) yT (UM.cells _).toArray (0,0) _ rfl (setRow_heap _ _ _ _ _ _ YC.out) underlying59 rfl xM) rfl ?_;exact⟨_,false,rfl,(by rw[WU.out,WL.out];simp),(fun h=>absurd h (by decide)),ws (HC.out.bw ZB.out.k) (by omega) _⟩
  have P4:=Z' (show vj K L m.cn p=true by rw[TW.out];rfl);have Dj:=Z9 (UP.Own (⟨ix,oa,on,oc,p.loc.map (yD K),ob,om,od,p.stk.map (yD K)⟩:UP) wc w3.heap.size) (⟨wg (Cz.out (by trivial)) (by omega),wg (JY.out (by trivial)) (by omega)⟩);clear Xy TW Cz JY;have o7:=y8 ZB.out.o 7 rfl;dsimp only[UM.cells]at o7;have XM:x9.mn<=65536:=by rw[Wz.out];omega
  go_wp2_with (at_builtin;refine wU kf rfl _ _ rfl w3.heap.size _ x9.mn _ rfl ZB.out.w.maps _ 1 _ _ rfl rfl rfl rfl (by omega) (by unfold maxLen;omega) ZB.out.k.size ?_;intro v9 w9 Z0 ZA ZK;have ZU:=yd.app ZB.out.w.maps ZA;have ZW:w9.ownsRow w3.heap.size 88 3 v9 (x9.mn+1) ((x9.maps++[(⟨ix,oa,on,oc,p.loc.map (yD K),ob,om,od,p.stk.map (yD K)⟩:UP)]).flatMap UP.cells):=(by rw[List.flatMap_append];exact Z0);obtain⟨a9,c9,rfl,-,-⟩:=Ss.ofOwn UP.cells_length (by decide) ZW;have Yc:yZ (fun k=>w3.heap.size<=k) wc w9:=yZ.ofB ZK (Nat.le_trans (by simp) ZA.size);have ZC:=Z' (ZB.out.app Yc ZU (ZB.out.w.maps1 ZU ZW (Dj.out.keptT ZU (by decide))) HC.out.gs);have fo:=xQ ZC.out.2.1 7;have lto:=yG ZC.out.2.1;have co:=y8 ZC.out.2.1 7 rfl;dsimp only[UM.cells]at co;clear Z0 ZW ZA ZK ZU Yc)
  have YE:=ZC.out.2.2 7 (.slice a9 (x9.mn+1) c9) rfl;have YM:=Z' (UM.p_maps1 TZ.out a9 (x9.mn+1) c9 (⟨ix,oa,on,oc,p.loc.map (yD K),ob,om,od,p.stk.map (yD K)⟩:UP));have Yj:=Z' YE
  have XX:=Z' (show UM.p {x9 with ma:=a9,mn:=x9.mn+1,mc:=c9,maps:=x9.maps++[(⟨ix,oa,on,oc,p.loc.map (yD K),ob,om,od,p.stk.map (yD K)⟩:UP)]}=⟨sb,NM,DS,m.st,m.lo,none,0,0,L.map (xT K L),none,0,0,m.traps.map (vU K L m.cn),none,0,0,(m.maps.take (jp+1)).map (uM K L m.cn)⟩ by
   rw[YM.out,YW.out,List.map_append,List.map_singleton,My.out,<-HU.out (by trivial)];rfl)
  have XP:=Z' (show(m.maps.take (jp+1)).all (vj K L m.cn)=true by
   rw[YW.out,List.all_append,TG.out];simp[P4.out])
  clear YE YM ZC TZ TG ZB Zc Qf D1 RY P4 Dj fo lto co z0 z1 z2 o7 d1 My HU HD;go_roundg (m.mn-(jp+1))
  case measure=>omega
  exact⟨jp+1,_,by omega,rfl,by go_num,XP,XX,Yj⟩
 have Td:jp=m.mn:=by omega
 have ZV:m.maps.take jp=m.maps:=List.take_of_length_le (by rw[HM.out.maps.1];omega);rw[ZV]at TG TZ;have Ga:¬((jp:Int)<m.mn):=by omega
 clear Td;have YC:=Z' (HC.out.zw ZC.out.k)
 go_upto_region 36 with fail
 refine wp_region_lit ?_;refine xN rfl _ _ rfl _ rfl _ _ _ _ ZC.out.o underlying59 rfl xM ?_;refine wpList_store_row rfl _ _ _ rfl _ _ rfl rfl _ _ YC.out xM rfl (uU _) ?_
 go_wp2_with fail
 refine bodyPost_ret (x8 rfl _ _ (w.heap.size+1) yT (UM.cells _).toArray (0,0) _ rfl (setRow_heap _ _ _ _ _ _ YC.out) underlying59 rfl xM) rfl ?_;exact⟨_,true,rfl,(by rw[WU.out,HE.out,T5.out,TG.out];simp),(fun _=>⟨TZ.out.trans KA.out.symm,(ZC.out.w.keepP (yZ.setrow (yZ.refl (fun k=>k=w.heap.size+1) _) (.inl rfl) _) (fun y hy=> .inl (by omega))).mono (by omega)⟩),ws (HC.out.bw ZC.out.k) (by omega) _⟩
end
end Go.Proofs.YtclpkipaehpkdaaGreatDoor
