/- asm -/
import Derived.Test.YtclpkipaehpkdaaGreatDoorQ12AsmMade
import Derived.Test.YtclpkipaehpkdaaGreatDoorQ11AsmMade
import Derived.SizedLaws
import Derived.Test.YtclpkipaehpkdaaGreatDoorQ09AsmMade
set_option linter.unusedVariables false
set_option linter.unusedSimpArgs false
set_option maxRecDepth 100000
set_option maxHeartbeats 64000000
namespace Go.Proofs.YtclpkipaehpkdaaGreatDoor
section
open Go.ChangeShapes Go.WideShapes Go.ChangeAt Go.RowKit
abbrev A4u:=32
def u0:UU:=⟨[],[],none,0,0,[],none,0,0,[]⟩
theorem C6q(x:UU):x.cells.toArray.all (·.oneCell')=true:=by
 simp[UU.cells,Value.oneCell']
theorem A5s:(Tryz.prog.info? A4u).map (·.size)=some 4:=by kernel_rfl
theorem B4j:(Tryz.prog.info? 52).map (·.size)=some 3:=by kernel_rfl
theorem E1x(x:UF):x.cells.toArray.all (·.oneCell')=true:=by
 simp[UF.cells,Value.oneCell']
theorem UU.Own.keepP{u:UU}{q:Nat->Prop}{w w':World}{B:Nat}(h:u.Own w B)(k:A0j q w w')(hq:∀x,q x->x<B\/w.heap.size<=x):u.Own w' B:=⟨A5d h.fields k hq,A5d h.methods k hq,fun p hp=>(h.each p hp).keepP k hq⟩
theorem UU.Own.mono{u:UU}{w:World}{B B':Nat}(h:u.Own w B)(hB:B'<=B):u.Own w B':=⟨A1y h.fields hB,A1y h.methods hB,fun m hm=>(h.each m hm).mono hB⟩
theorem UU.Own.fields1{x:UU}{w w9:World}{B:Nat}{v:Option Addr}{c:Nat}{i:UF}(h:x.Own w B)(ht:A2p 52 w w9)(ho:w9.ownsRow B 52 3 (.slice v (x.fn+1) c) (x.fn+1) ((x.fields++[i]).flatMap UF.cells)):UU.Own {x with fa:=v,fn:=x.fn+1,fc:=c,fields:=x.fields++[i]} w9 B:=
 ⟨ho,A0k h.methods ht (by decide),fun p hp=>(h.each p hp).keptT ht (by decide) (by decide) (by decide) (by decide)⟩
theorem UU.Own.methods1{x:UU}{w w9:World}{B:Nat}{v:Option Addr}{c:Nat}{i:UM}(h:x.Own w B)(ht:A2p A1d w w9)(ho:w9.ownsRow B A1d 8 (.slice v (x.mn+1) c) (x.mn+1) ((x.methods++[i]).flatMap UM.cells))(hi:i.Own w9 B):UU.Own {x with ma:=v,mn:=x.mn+1,mc:=c,methods:=x.methods++[i]} w9 B:=
 ⟨A0k h.fields ht (by decide),ho,fun p hp=>by
  rcases List.mem_append.1 hp with hp|hp
  ·exact(h.each p hp).keptT ht (by decide) (by decide) (by decide) (by decide)
  obtain rfl:p=i:=by simpa using hp
  exact hi⟩
theorem UU.p_fields1{x X:UU}(h:x.p=X)(v:Option Addr)(n c:Nat)(i:UF):UU.p {x with fa:=v,fn:=n,fc:=c,fields:=x.fields++[i]}={X with fields:=X.fields++[i]}:=by
 subst h;rfl
theorem UU.p_methods1{x X:UU}(h:x.p=X)(v:Option Addr)(n c:Nat)(i:UM):UU.p {x with ma:=v,mn:=n,mc:=c,methods:=x.methods++[i]}={X with methods:=X.methods++[i.p]}:=by
 subst h;simp[UU.p]
structure C3c(W w:World)(g go:Nat)(a:Option Addr)(n cap:Nat)(K:List KV)(er:Int)(x:UU):Prop where
 l:LfS w g a n cap K er
 k:A0j (GG g go) W w
 o:w.heap[go]? =some (.cells x.cells.toArray A4u (0,0))
 w:x.Own w W.heap.size
section
variable {W w w9:World} {g go:Nat} {a:Option Addr} {n cap:Nat} {K:List KV} {er er':Int} {x:UU}
theorem C3c.below(h:C3c W w g go a n cap K er x)(hb:Below w.heap.size w w9):C3c W w9 g go a n cap K er x:=
 ⟨h.l.below hb,h.k.trans (A0j.of hb),A0e h.o hb,h.w.keepP (A0j.of (p:=fun _=>False) hb) (fun _ hx=>hx.elim)⟩
theorem C3c.call(h:C3c W w g go a n cap K er x)(hl:LfS w9 g a n cap K er')(hk:A0j (fun k=>k=g) w w9)(hg:g<W.heap.size)(hne:go≠g):C3c W w9 g go a n cap K er' x:=
 ⟨hl,h.k.trans (hk.weak fun _ _ e=> .inl e),hk.row h.o hne,h.w.keepP hk (fun y hy=> .inl (by rw[hy];exact hg))⟩
theorem C3c.new(h:C3c W w g go a n cap K er x)(hl:LfS w9 g a n cap K er')(hk:A0j (fun k=>k=g\/w.heap.size<=k) w w9)(hg:g<W.heap.size)(hne:go≠g):C3c W w9 g go a n cap K er' x:=
 ⟨hl,h.k.trans (hk.weak fun k hk e=>by rcases e with e|e;exact .inl e;have:=h.k.size;omega),hk.row h.o (fun e=>by rcases e with e|e;exact hne e;have:=A0r h.o;omega),h.w.keepP hk (fun y hy=>by rcases hy with hy|hy;exact .inl (by rw[hy];exact hg);exact .inr hy)⟩
theorem _root_.Go.Proofs.YtclpkipaehpkdaaGreatDoor.LfS.appU{e:TypeId}{x':UU}(h0:LfS W g a n cap K er')(h:C3c W w g go a n cap K er x)(hB:A0j (fun k=>W.heap.size<=k) w w9)(ht:A2p e w w9)(hw:x'.Own w9 W.heap.size)(hgo:go<W.heap.size)(hne:go≠g)(hg0:0<go)(hoff:B1t a n go)(hme:A4u≠e:=by decide):
  A0j (GG g go) W w9/\w9.heap[go]? =some (.cells x.cells.toArray A4u (0,0))/\∀(o:Nat) (v:Value),x'.cells.toArray=x.cells.toArray.setIfInBounds o v->C3c W (w9.setCell ⟨go,o,none⟩ v) g go a n cap K er x':=by
 have hl9:LfS w9 g a n cap K er:=h0.newer h.l nlz hB;have hk9:A0j (GG g go) W w9:=h.k.new hB;have ho9:=ht.2 _ _ _ _ h.o hme;refine⟨hk9,ho9,fun o v hc=> ?_⟩
 have hs:A0j (fun k=>k=go) w9 (w9.setCell ⟨go,o,none⟩ v):=A0j.set (A0j.refl (fun k=>k=go) w9) (.inl rfl) o v
 refine⟨hl9.keep hs (fun e=>hne e.symm) (fun e=>by omega) (fun hn b off e e2=>hoff hn b off e e2),hk9.trans (hs.weak fun _ _ e=> .inr e),?_,hw.keepP hs (fun y hy=> .inl (by rw[hy];exact hgo))⟩
 have:=A1k ho9 o v;rw[hc];exact this
end
def B1r(K:List KV)(d:KD):UF:=⟨decide (d.fl=8),A1c K d.nm,A1c K d.ds⟩
def B4b(K:List KV)(d:KD):Bool:=A5e (A1c K d.nm)&&typeB (A1c K d.ds)
def C0w(f:KF):UU:=⟨(A0s f.pool f.th).1,if f.su=0 then []else(A0s f.pool f.su).1,none,0,0,f.fields.map (B1r f.pool),none,0,0,f.methods.map (B9k f.pool)⟩
def B6t(f:KF):Bool:=A2r f&&(aclsB f.pool f.th false&&((decide (f.su=0)||aclsB f.pool f.su false)&&(f.fields.all (B4b f.pool)&&f.methods.all (B9m f.pool))))
def D6f(f:KF)(w:World)(e:Ending)(w':World):Prop:=∃(u:UU) (er:Int),e= .returned (.tuple #[.agg u.cells.toArray,.int .i64 er])/\(er=0↔B6t f=true)/\(er=0->u.p=C0w f)/\(er≠0->u=u0)/\(A2r f=false->er=8)/\u.Own w' w.heap.size/\Below w.heap.size w w'
theorem B6z{f:KF}{w:World}(h:A2r f=true)(hr:f.Rd w):f.fn<=64/\f.mn<=64/\∀m∈f.methods,A3z f.pool m=true:=by
 unfold A2r at h;simp only[Bool.and_eq_true,List.all_eq_true,decide_eq_true_iff]at h;have l1:=hr.fields.1;have l2:=hr.methods.1;refine⟨?_,?_,?_⟩
 ·omega
 ·omega
 exact h.2
def Q18(go gm:Nat)(m:KM)(v:Value)(w:World):Prop:=w.heap[gm]? =some (.cells m.cells.toArray 65 (0,0))/\w.cell? ⟨go,3,none⟩=some v
def QE(g:Nat)(er:Int)(w:World):Prop:=w.cell? ⟨g,1,none⟩=some (.int .i64 er)
def QF(gd:Nat)(d:KD)(wx:World):Prop:=wx.heap[gd]? =some (.cells d.cells.toArray 75 (0,0))
theorem D4v(w:World)(B:Nat):u0.Own w B:=⟨World.ownsRow_nil _ _ _ _,World.ownsRow_nil _ _ _ _,fun p hp=>by cases hp⟩
theorem B3n(w:World)(f:KF)(h:f.Rd w)(hfit:f.Fit)(hv:VW w)(htx:∀i:Int,(kAt f.pool i).s.length<=65536):
  Calls Tryz.prog 10 #[.agg #[.slice f.pa f.pn f.pc,.int .i64 f.th,.int .i64 f.su,.slice f.fa f.fn f.fc,.slice f.ma f.mn f.mc]] w (D6f f w):=by
 have HR:=hzz h;have HFT:=hzz hfit;have HV:=hzz hv;have HTX:=hzz htx
 have hb0:Below w.heap.size w ((w.alloc (.cells #[.slice f.pa f.pn f.pc,.int .i64 f.th,.int .i64 f.su,.slice f.fa f.fn f.fc,.slice f.ma f.mn f.mc] 26)).alloc (.cells #[.string ⟨#[]⟩,.string ⟨#[]⟩,.slice none 0 0,.slice none 0 0] A4u)):=((Below.refl w.heap.size w).alloc nlz _).alloc (by simp) _
 have HB:=hzz hb0
 have HF:=hzz (show((w.alloc (.cells #[.slice f.pa f.pn f.pc,.int .i64 f.th,.int .i64 f.su,.slice f.fa f.fn f.fc,.slice f.ma f.mn f.mc] 26)).alloc (.cells #[.string ⟨#[]⟩,.string ⟨#[]⟩,.slice none 0 0,.slice none 0 0] A4u)).heap[w.heap.size]? =some (.cells f.cells.toArray 26 (0,0)) by
  rw[Below.heap_alloc _ _ _ (by simp)];exact heap_alloc_last w _)
 have HZ:=hzz (show((w.alloc (.cells #[.slice f.pa f.pn f.pc,.int .i64 f.th,.int .i64 f.su,.slice f.fa f.fn f.fc,.slice f.ma f.mn f.mc] 26)).alloc (.cells #[.string ⟨#[]⟩,.string ⟨#[]⟩,.slice none 0 0,.slice none 0 0] A4u)).heap[w.heap.size+1]? =some (.cells #[.string ⟨#[]⟩,.string ⟨#[]⟩,.slice none 0 0,.slice none 0 0] A4u) by
  have:=heap_alloc_last (w.alloc (.cells #[.slice f.pa f.pn f.pc,.int .i64 f.th,.int .i64 f.su,.slice f.fa f.fn f.fc,.slice f.ma f.mn f.mc] 26)) (.cells #[.string ⟨#[]⟩,.string ⟨#[]⟩,.slice none 0 0,.slice none 0 0] A4u)
  simpa using this)
 have HSZ:=hzz (show((w.alloc (.cells #[.slice f.pa f.pn f.pc,.int .i64 f.th,.int .i64 f.su,.slice f.fa f.fn f.fc,.slice f.ma f.mn f.mc] 26)).alloc (.cells #[.string ⟨#[]⟩,.string ⟨#[]⟩,.slice none 0 0,.slice none 0 0] A4u)).heap.size=w.heap.size+2 by simp)
 have HTM:=hzz (show w.heap.size=w.heap.size from rfl);clear h hfit hv htx hb0;go_enter Tryz.func10,Tryz.ntmps10
 go_upto_region 1 with fail
 generalize((w.alloc (.cells #[.slice f.pa f.pn f.pc,.int .i64 f.th,.int .i64 f.su,.slice f.fa f.fn f.fc,.slice f.ma f.mn f.mc] 26)).alloc (.cells #[.string ⟨#[]⟩,.string ⟨#[]⟩,.slice none 0 0,.slice none 0 0] A4u))=W0 at*
 have HCH:=hzz (B5m W0 f (HR.out.below HB.out) HFT.out);have c0:=A0a HF.out 0 rfl;have c1:=A0a HF.out 1 rfl;have c2:=A0a HF.out 2 rfl;have c3:=A0a HF.out 3 rfl
 have c4:=A0a HF.out 4 rfl;dsimp only[KF.cells]at c0 c1 c2 c3 c4;unfold B0t at HCH;obtain⟨ck,hck⟩:=exz (A2r f);rw[<-hck]at HCH;have HCK:=hzz hck;clear hck
 go_wp2_with fail
 refine HCH.out.mono ?_;rintro e w2 ⟨rfl,hb2⟩;have HF2:=hzz (A0e HF.out hb2);have HZ2:=hzz (show w2.heap[w.heap.size+1]? =some (.cells u0.cells.toArray A4u (0,0))from A0e HZ.out hb2)
 have HB2:=btz HB hb2;clear hb2 HF HZ HB HCH c0 c1 c2 c3 c4
 cases ck
 ·have HCN:=hzz (show B6t f=false by unfold B6t;rw[<-HCK.out];rfl)
  go_wp2_with (refine wpList_store_row rfl _ _ _ rfl _ u0.cells.toArray rfl rfl _ _ HZ2.out A5s rfl (C6q _) ?_)
  refine bodyPost_ret (A1z rfl _ _ (w.heap.size+1) A4u u0.cells.toArray (0,0) _ rfl (setRow_heap _ _ _ _ _ _ HZ2.out) Tryz.underlying32 rfl A5s) rfl ?_
  have hks:A0j (fun k=>k=w.heap.size+1) w2 (w2.setRow (w.heap.size+1) u0.cells.toArray):=A0j.setrow (A0j.refl (fun k=>k=w.heap.size+1) _) (.inl rfl) _
  exact⟨u0,8,rfl,by rw[HCN.out];simp,fun e=>by simp at e,fun _=>rfl,fun _=>rfl,D4v _ _,hks.below HB2.out nlz (fun k hk=>by omega)⟩
 have c0:=A0a HF2.out 0 rfl;dsimp only[KF.cells]at c0;have hs2:w.heap.size+2<=w2.heap.size:=by have:=A0r HZ2.out;omega
 go_upto_region 5 with fail
 have hb3:Below w2.heap.size w2 (w2.alloc (.cells #[.slice f.pa f.pn f.pc,.int .i64 0] 72)):=A0f _ _;have HF3:=hzz (A0e HF2.out hb3);have HZ3:=hzz (A0e HZ2.out hb3);have HB3:=btz HB2 hb3
 have HL3:=hzz (show LfS (w2.alloc (.cells #[.slice f.pa f.pn f.pc,.int .i64 0] 72)) w2.heap.size f.pa f.pn f.pc f.pool 0 from
  ⟨heap_alloc_last w2 _,HR.out.pool.below HB3.out,HFT.out.pn,HR.out.pool.offold HB2.out.size,HTX.out,HV.out.below HB3.out,by omega⟩)
 have HLG:=hzz HB2.out.size;clear hb3 HF2 HZ2 HB2 c0;generalize w2.alloc _=w3 at*;generalize w2.heap.size=g at*;have c1:=A0a HF3.out 1 rfl;dsimp only[KF.cells]at c1
 have HCL:=hzz (A7r w3 g f.pa f.pn f.pc f.pool 0 f.th false HL3.out);obtain⟨CN,hCN⟩:∃CN,CN=(A0s f.pool f.th).1:=⟨_,rfl⟩;rw[<-hCN]at HCL;have HCN:=hzz hCN;clear hCN
 go_wp2_with fail
 refine HCL.out.mono ?_;rintro e w4 ⟨rfl,hl,hk⟩;have HE4:=hzz (A1f (er:=0) (ok:=aclsB f.pool f.th false) (show(8:Int)≠0 by decide));generalize A2a 0 (aclsB f.pool f.th false) 8=er4 at*
 have HL4:=hzz hl;have HF4:=hzz (hk.row HF3.out (by omega));have HZ4:=hzz (hk.row HZ3.out (by omega));have HB4:=hzz (hk.below HB3.out nlz (fun k e=>by have:=HLG.out;omega))
 clear hl hk HL3 HF3 HZ3 HB3 HCL c1
 go_upto_region 6 with fail
 have hb5:Below w4.heap.size w4 (w4.alloc (.cells #[.string ⟨CN.toArray⟩,.string ⟨#[]⟩,.slice none 0 0,.slice none 0 0] A4u)):=A0f _ _;have HF5:=hzz (A0e HF4.out hb5)
 have HZ5:=hzz (A0e HZ4.out hb5);have HB5:=btz HB4 hb5;have HLF:=hzz (HL4.out.below hb5)
 have HGO:=hzz (show(w4.alloc (.cells #[.string ⟨CN.toArray⟩,.string ⟨#[]⟩,.slice none 0 0,.slice none 0 0] A4u)).heap[w4.heap.size]? =some (.cells (UU.cells ⟨CN,[],none,0,0,[],none,0,0,[]⟩).toArray A4u (0,0))from heap_alloc_last w4 _)
 have hg4:g<w4.heap.size:=HL4.out.lt;have HB4s:=hzz HB4.out.size;clear hb5 HF4 HZ4 HB4 HL4;generalize w4.alloc _=W at*;generalize w4.heap.size=go at*;have hgoW:go<W.heap.size:=A0r HGO.out
 have hgW:g<W.heap.size:=HLF.out.lt;have hgfg:w.heap.size+1<g:=by omega
 have HOP:=hzz (show B1t f.pa f.pn go from HR.out.pool.offold HB4s.out)
 have HJ0:=hzz (show C3c W W g go f.pa f.pn f.pc f.pool er4 ⟨CN,[],none,0,0,[],none,0,0,[]⟩from⟨HLF.out,A0j.refl _ _,HGO.out,⟨World.ownsRow_nil _ _ _ _,World.ownsRow_nil _ _ _ _,fun p hp=>by cases hp⟩⟩)
 have hFw:∀wx,A0j (GG g go) W wx->wx.heap[w.heap.size]? =some (.cells f.cells.toArray 26 (0,0)):=fun wx hk=>hk.row HF5.out (fun e=>by rcases e with e|e<;>omega)
 have HFW:=hzz hFw
 have hZw:∀wx,A0j (GG g go) W wx->wx.heap[w.heap.size+1]? =some (.cells u0.cells.toArray A4u (0,0)):=fun wx hk=>hk.row HZ5.out (fun e=>by rcases e with e|e<;>omega)
 have HZW:=hzz hZw
 have hBw:∀wx,A0j (GG g go) W wx->Below w.heap.size w wx:=fun wx hk=>hk.below HB5.out nlz (fun k e=>by rcases e with e|e<;>omega)
 have HBW:=hzz hBw;clear hFw hZw hBw HGO;have c2:=A0a HF5.out 2 rfl;dsimp only[KF.cells]at c2
 go_upto_if 29 with fail
 go_cut [] (fun wx=>∃(er5:Int) (SN:List UInt8),Hid (er5=0↔er4=0/\(decide (f.su=0)||aclsB f.pool f.su false)=true)/\Hid (SN=if f.su=0 then []else(A0s f.pool f.su).1)/\Hid (C3c W wx g go f.pa f.pn f.pc f.pool er5 ⟨CN,SN,none,0,0,[],none,0,0,[]⟩))
 case first=>
  by_cases h0:f.su=0
  ·have e0:(f.su !=0)=false:=by simp[h0]
   have HH:=hzz h0;clear h0
   go_wp2_with fail
   go_meet;exact⟨er4,[],hzz (by simp[HH.out]),hzz (by simp[HH.out]),HJ0⟩
  have e0:(f.su !=0)=true:=by simp[h0]
  have HH:=hzz h0;clear h0;have HCL:=hzz (A7r W g f.pa f.pn f.pc f.pool er4 f.su false HLF.out)
  go_wp2_with fail
  refine HCL.out.mono ?_;rintro e w8 ⟨rfl,hl,hk⟩;have HJ8:=hzz (HJ0.out.call hl hk hgW (by omega));clear hl hk HCL HJ0;have f1:=A0n HJ8.out.o 1;have z1:=A0a HJ8.out.o 1 rfl
  have lz:=A0r HJ8.out.o;dsimp only[UU.cells]at z1;obtain⟨SN,hSN⟩:∃SN,SN=(A0s f.pool f.su).1:=⟨_,rfl⟩;rw[<-hSN];have HSN:=hzz hSN;clear hSN
  go_wp2_with fail
  go_meet
  exact⟨_,SN,hzz (by rw[A1f (by decide)];simp[HH.out]),hzz (by simp[HH.out,HSN.out]),hzz ((HLF.out.appU (x':=⟨CN,SN,none,0,0,[],none,0,0,[]⟩) HJ8.out (A0j.refl _ _) (A2p.refl (e:=52) _) ⟨World.ownsRow_nil _ _ _ _,World.ownsRow_nil _ _ _ _,fun p hp=>by cases hp⟩ hgoW (by omega) (by omega) HOP.out).2.2 1 _ rfl)⟩
 clear HJ0 c2;obtain⟨er5,SN,HE5,HSN,HJ5⟩:=hcut;have hcp:=B6z HCK.out.symm HR.out;have HFN:=hzz hcp.1;have HMN:=hzz hcp.2.1;have HMO:=hzz hcp.2.2;clear hcp
 have c3:=A0a (HFW.out wc HJ5.out.k) 3 rfl;dsimp only[KF.cells]at c3
 go_wp2_with fail
 go_loopg [38] f.fn (fun gn i wr=>∃(j:Nat) (er6:Int) (x:UU),j<=f.fn/\gn=f.fn-j/\i= .int .i64 j/\Hid (er6=0↔er5=0/\(f.fields.take j).all (B4b f.pool)=true)/\Hid (x.p=⟨CN,SN,none,0,0,(f.fields.take j).map (B1r f.pool),none,0,0,[]⟩)/\Hid (C3c W wr g go f.pa f.pn f.pc f.pool er6 x))
 case atStart=>exact⟨0,er5,_,by omega,by omega,by go_num,hzz (by simp),hzz rfl,HJ5⟩
 clear HJ5 c3;obtain⟨j,er6,x,hj,rfl,rfl,HE6,HX6,HJ6⟩:=hrel;by_cases hlt:j<f.fn
 ·have hlj:x.fields.length=j:=by
   have h1:=congrArg (fun u=>u.fields.length) HX6.out;have h2:=HR.out.fields.1;simp only[UU.p,List.length_map,List.length_take]at h1;omega
  have hcn:x.fn=j:=by
   obtain⟨a9,c9,e9,h9,_⟩:=Ss.ofOwn UF.cells_length (by decide) HJ6.out.w.fields
   cases e9
   rw[<-hlj];exact h9.1.symm
  have HCNF:=hzz hcn;have HS:=hzz (HR.out.below (HBW.out wr HJ6.out.k)).fields;have hj1:(j:Int)<f.fn:=by omega
  have hfn:f.fn<=64:=HFN.out;obtain⟨bq,off,d,hbq,hbl,hs,q⟩:=HS.out.getC j hlt;have q0:=q 0 (by omega);have q1:=q 1 (by omega);have q2:=q 2 (by omega);rw[Nat.add_zero]at q0
  simp only[KD.cells,List.getElem?_cons_zero,List.getElem?_cons_succ]at q0 q1 q2
  have HTK:=hzz (show f.fields.take (j+1)=f.fields.take j++[d] by
   have hjl:=(gsz hs).1;rw[List.take_succ_eq_append_getElem hjl,(gsz hs).2])
  clear hs q hlt HS hlj hcn
  go_upto_region 11 with fail
  have hb7:Below wr.heap.size wr (wr.alloc (.cells #[.int .i64 d.fl,.int .i64 d.nm,.int .i64 d.ds] 75)):=A0f _ _;have HJ7:=hzz (HJ6.out.below hb7)
  have HGD:=hzz (show(wr.alloc (.cells #[.int .i64 d.fl,.int .i64 d.nm,.int .i64 d.ds] 75)).heap[wr.heap.size]? =some (.cells d.cells.toArray 75 (0,0))from heap_alloc_last wr (.cells #[.int .i64 d.fl,.int .i64 d.nm,.int .i64 d.ds] 75))
  have hggd:g<wr.heap.size:=HJ6.out.l.lt;clear hb7 HJ6 q0 q1 q2 hbq hbl;generalize wr.alloc _=w7 at*;generalize wr.heap.size=gd at*;obtain⟨sb,hsb⟩:=exz (decide (d.fl=8))
  have esb:(d.fl==8)=sb:=by rw[hsb,Bool.eq_iff_iff,beq_iff_eq,decide_eq_true_iff]
  obtain⟨NM,hNM⟩:=exz (A1c f.pool d.nm);obtain⟨DS,hDS⟩:=exz (A1c f.pool d.ds)
  have HT1:=hzz (fun(V:World) (hV:LfS V g f.pa f.pn f.pc f.pool er6)=>A9k V g f.pa f.pn f.pc f.pool er6 d.nm hV)
  have HT2:=hzz (fun(V:World) (hV:LfS V g f.pa f.pn f.pc f.pool er6)=>A9k V g f.pa f.pn f.pc f.pool er6 d.ds hV);rw[<-hNM]at HT1;rw[<-hDS]at HT2
  have HNL:=hzz (show NM.length<=65536 by rw[hNM];exact A5m HTX.out _);have HDL:=hzz (show DS.length<=65536 by rw[hDS];exact A5m HTX.out _)
  have HFV:=hzz (show B1r f.pool d=⟨sb,NM,DS⟩ by rw[hsb,hNM,hDS];rfl);have HFC:=hzz (show B4b f.pool d=(A5e NM&&typeB DS) by rw[hNM,hDS];rfl);clear hsb hNM hDS
  go_cut [9] (fun s9 wx=>∃(gx:Nat),s9= .pointer (some ⟨gx,0,none⟩)/\w7.heap.size<=gx/\Hid (LfS wx g f.pa f.pn f.pc f.pool er6)/\Hid (A0j (fun k=>k=g\/w7.heap.size<=k) w7 wx)/\Hid (wx.heap[gx]? =some (.cells (UF.cells ⟨sb,NM,DS⟩).toArray 52 (0,0))))
  case first=>
   have HL0:=hzz (HJ7.out.l.below ((Below.refl w7.heap.size w7).drew));have HK0:=hzz (show A0j (fun k=>k=g\/w7.heap.size<=k) w7 w7.drew from A0j.of ((Below.refl w7.heap.size w7).drew))
   have hSw:QF gd d w7.drew:=HGD.out;have l0:=fun z (h:QF gd d z)=>A0a h 0 rfl
   have l1:=fun z (h:QF gd d z)=>A0a h 1 rfl
   have l2:=fun z (h:QF gd d z)=>A0a h 2 rfl
   dsimp only[KD.cells]at l0 l1 l2
   refine A0h (QF gd d) (.of [(0,true),(1,true),(2,true),(3,true),(4,true),(5,true),(7,true),(8,true),(9,true)] (.fork 6 (.fork 10 (.of [(11,true),(12,false),(13,false)] (.stir [])) 12 (.of [(10,false),(11,true),(13,false)] (.stir []))) 12 (.of [(6,false),(10,false),(11,true),(13,false)] (.stir [])))) (by kernel_rfl) (by kernel_rfl) (fun c a d v w h=>by cases d<;>exact h) ?_
   obtain⟨V0,hV0⟩:∃V,V=w7.drew:=⟨_,rfl⟩;rw[<-hV0]at HL0 HK0 hSw⊢;clear hV0
   iterate 9
    refine A0b fun K hK=>tkF ?_
    go_simp
    try go_bits
    refine hK _ _ ?_;clear hK K
   refine A3e ?_ ?_
   ·intro K hK;refine alF ?_;go_step;refine(HT1.out V0 HL0.out).mono ?_;rintro e V9 ⟨rfl,hVe⟩;replace hVe:=hVe.symm;subst hVe;go_simp
    first|refine⟨hSw,hK _ _ ?_⟩|refine hK _ _ ?_
    clear hK K;refine A3e ?_ ?_
    ·intro K hK;refine alF ?_;go_step;refine(HT2.out V0 HL0.out).mono ?_;rintro e V9 ⟨rfl,hVe⟩;replace hVe:=hVe.symm;subst hVe;go_simp
     first|refine⟨hSw,hK _ _ ?_⟩|refine hK _ _ ?_
     clear hK K
     iterate 1
      refine A0b fun K hK=>tkF ?_
      go_simp
      try go_bits
      refine hK _ _ ?_;clear hK K
     refine A0b fun K hK=>alF ?_
     go_step;have hal:Below V0.heap.size V0 (V0.alloc (.cells #[.bool false,.string ⟨#[]⟩,.string ⟨#[]⟩] 52)):=A0f _ _
     have hSn:QF gd d (V0.alloc (.cells #[.bool false,.string ⟨#[]⟩,.string ⟨#[]⟩] 52)):=A0e hSw hal;refine⟨hSn,hK _ _ ?_⟩;clear hK K hSw;have hSw:=hSn
     have HL1:=hzz (HL0.out.below hal);have HK1:=hzz (HK0.out.trans (A0j.of hal))
     have HZ1:=hzz (show(V0.alloc (.cells #[.bool false,.string ⟨#[]⟩,.string ⟨#[]⟩] 52)).heap[V0.heap.size]? =some (.cells (UF.cells ⟨false,[],[]⟩).toArray 52 (0,0))from heap_alloc_last V0 (.cells #[.bool false,.string ⟨#[]⟩,.string ⟨#[]⟩] 52))
     have hgx:w7.heap.size<=V0.heap.size:=HK0.out.size;have hgg:g<V0.heap.size:=HL0.out.lt;clear hSn hal HL0 HK0;generalize V0.alloc _=V1 at*;generalize V0.heap.size=gx at*
     refine A0b fun K hK=>alF ?_
     refine wp_store_row 52 _ _ rfl gx (UF.cells ⟨sb,NM,DS⟩).toArray rfl rfl 52 (UF.cells ⟨false,[],[]⟩).toArray HZ1.out B4j rfl (E1x _) ?_
     have hgW2:W.heap.size<=gx:=Nat.le_trans HJ7.out.k.size hgx;have HLZ:=hzz (HLF.out.newer HL1.out nlz ((A0j.refl _ _).setrow (.inl hgW2) (UF.cells ⟨sb,NM,DS⟩).toArray))
     have HKZ:=hzz (HK1.out.setrow (.inl (.inr hgx)) (UF.cells ⟨sb,NM,DS⟩).toArray);have HZZ:=hzz (setRow_heap V1 gx _ (UF.cells ⟨sb,NM,DS⟩).toArray _ _ HZ1.out)
     have hgd7:gd<w7.heap.size:=A0r HGD.out;have hSn:QF gd d (V1.setRow gx (UF.cells ⟨sb,NM,DS⟩).toArray):=HKZ.out.row HGD.out (by omega);refine⟨hSn,hK _ _ ?_⟩;clear hK K HL1 HK1 HZ1 hSw
     refine A0m (B1s (V1.setRow gx (UF.cells ⟨sb,NM,DS⟩).toArray)) (fun y hy=>by obtain rfl:y=V1.setRow gx (UF.cells ⟨sb,NM,DS⟩).toArray:=hy;exact hSn) rfl ?_
     refine A0p (fun y hy=> ?_);obtain rfl:y=V1.setRow gx (UF.cells ⟨sb,NM,DS⟩).toArray:=hy;clear hSn
     go_wp2_with fail
     go_meet;exact⟨gx,rfl,hgx,HLZ,HKZ,HZZ⟩
    intro K hK;refine alF ?_;go_step;have hal:Below V0.heap.size V0 (V0.alloc (.cells #[.bool false,.string ⟨#[]⟩,.string ⟨#[]⟩] 52)):=A0f _ _
    have hSn:QF gd d (V0.alloc (.cells #[.bool false,.string ⟨#[]⟩,.string ⟨#[]⟩] 52)):=A0e hSw hal;refine⟨hSn,hK _ _ ?_⟩;clear hK K hSw;have hSw:=hSn;have HL1:=hzz (HL0.out.below hal)
    have HK1:=hzz (HK0.out.trans (A0j.of hal))
    have HZ1:=hzz (show(V0.alloc (.cells #[.bool false,.string ⟨#[]⟩,.string ⟨#[]⟩] 52)).heap[V0.heap.size]? =some (.cells (UF.cells ⟨false,[],[]⟩).toArray 52 (0,0))from heap_alloc_last V0 (.cells #[.bool false,.string ⟨#[]⟩,.string ⟨#[]⟩] 52))
    have hgx:w7.heap.size<=V0.heap.size:=HK0.out.size;have hgg:g<V0.heap.size:=HL0.out.lt;clear hSn hal HL0 HK0;generalize V0.alloc _=V1 at*;generalize V0.heap.size=gx at*
    refine A0b fun K hK=>alF ?_
    go_step;refine(HT2.out V1 HL1.out).mono ?_;rintro e V9 ⟨rfl,hVe⟩;replace hVe:=hVe.symm;subst hVe;go_simp
    first|refine⟨hSw,hK _ _ ?_⟩|refine hK _ _ ?_
    clear hK K
    iterate 1
     refine A0b fun K hK=>tkF ?_
     go_simp
     try go_bits
     refine hK _ _ ?_;clear hK K
    refine A0b fun K hK=>alF ?_
    refine wp_store_row 52 _ _ rfl gx (UF.cells ⟨sb,NM,DS⟩).toArray rfl rfl 52 (UF.cells ⟨false,[],[]⟩).toArray HZ1.out B4j rfl (E1x _) ?_
    have hgW2:W.heap.size<=gx:=Nat.le_trans HJ7.out.k.size hgx;have HLZ:=hzz (HLF.out.newer HL1.out nlz ((A0j.refl _ _).setrow (.inl hgW2) (UF.cells ⟨sb,NM,DS⟩).toArray))
    have HKZ:=hzz (HK1.out.setrow (.inl (.inr hgx)) (UF.cells ⟨sb,NM,DS⟩).toArray);have HZZ:=hzz (setRow_heap V1 gx _ (UF.cells ⟨sb,NM,DS⟩).toArray _ _ HZ1.out)
    have hgd7:gd<w7.heap.size:=A0r HGD.out;have hSn:QF gd d (V1.setRow gx (UF.cells ⟨sb,NM,DS⟩).toArray):=HKZ.out.row HGD.out (by omega);refine⟨hSn,hK _ _ ?_⟩;clear hK K HL1 HK1 HZ1 hSw
    refine A0m (B1s (V1.setRow gx (UF.cells ⟨sb,NM,DS⟩).toArray)) (fun y hy=>by obtain rfl:y=V1.setRow gx (UF.cells ⟨sb,NM,DS⟩).toArray:=hy;exact hSn) rfl ?_
    refine A0p (fun y hy=> ?_);obtain rfl:y=V1.setRow gx (UF.cells ⟨sb,NM,DS⟩).toArray:=hy;clear hSn
    go_wp2_with fail
    go_meet;exact⟨gx,rfl,hgx,HLZ,HKZ,HZZ⟩
   intro K hK;refine alF ?_;go_step;have hal:Below V0.heap.size V0 (V0.alloc (.cells #[.bool false,.string ⟨#[]⟩,.string ⟨#[]⟩] 52)):=A0f _ _
   have hSn:QF gd d (V0.alloc (.cells #[.bool false,.string ⟨#[]⟩,.string ⟨#[]⟩] 52)):=A0e hSw hal;refine⟨hSn,hK _ _ ?_⟩;clear hK K hSw;have hSw:=hSn;have HL1:=hzz (HL0.out.below hal)
   have HK1:=hzz (HK0.out.trans (A0j.of hal))
   have HZ1:=hzz (show(V0.alloc (.cells #[.bool false,.string ⟨#[]⟩,.string ⟨#[]⟩] 52)).heap[V0.heap.size]? =some (.cells (UF.cells ⟨false,[],[]⟩).toArray 52 (0,0))from heap_alloc_last V0 (.cells #[.bool false,.string ⟨#[]⟩,.string ⟨#[]⟩] 52))
   have hgx:w7.heap.size<=V0.heap.size:=HK0.out.size;have hgg:g<V0.heap.size:=HL0.out.lt;clear hSn hal HL0 HK0;generalize V0.alloc _=V1 at*;generalize V0.heap.size=gx at*
   refine A0b fun K hK=>alF ?_
   go_step;refine(HT1.out V1 HL1.out).mono ?_;rintro e V9 ⟨rfl,hVe⟩;replace hVe:=hVe.symm;subst hVe;go_simp
   first|refine⟨hSw,hK _ _ ?_⟩|refine hK _ _ ?_
   clear hK K;refine A0b fun K hK=>alF ?_
   go_step;refine(HT2.out V1 HL1.out).mono ?_;rintro e V9 ⟨rfl,hVe⟩;replace hVe:=hVe.symm;subst hVe;go_simp
   first|refine⟨hSw,hK _ _ ?_⟩|refine hK _ _ ?_
   clear hK K
   iterate 1
    refine A0b fun K hK=>tkF ?_
    go_simp
    try go_bits
    refine hK _ _ ?_;clear hK K
   refine A0b fun K hK=>alF ?_
   refine wp_store_row 52 _ _ rfl gx (UF.cells ⟨sb,NM,DS⟩).toArray rfl rfl 52 (UF.cells ⟨false,[],[]⟩).toArray HZ1.out B4j rfl (E1x _) ?_
   have hgW2:W.heap.size<=gx:=Nat.le_trans HJ7.out.k.size hgx;have HLZ:=hzz (HLF.out.newer HL1.out nlz ((A0j.refl _ _).setrow (.inl hgW2) (UF.cells ⟨sb,NM,DS⟩).toArray))
   have HKZ:=hzz (HK1.out.setrow (.inl (.inr hgx)) (UF.cells ⟨sb,NM,DS⟩).toArray);have HZZ:=hzz (setRow_heap V1 gx _ (UF.cells ⟨sb,NM,DS⟩).toArray _ _ HZ1.out)
   have hgd7:gd<w7.heap.size:=A0r HGD.out;have hSn:QF gd d (V1.setRow gx (UF.cells ⟨sb,NM,DS⟩).toArray):=HKZ.out.row HGD.out (by omega);refine⟨hSn,hK _ _ ?_⟩;clear hK K HL1 HK1 HZ1 hSw
   refine A0m (B1s (V1.setRow gx (UF.cells ⟨sb,NM,DS⟩).toArray)) (fun y hy=>by obtain rfl:y=V1.setRow gx (UF.cells ⟨sb,NM,DS⟩).toArray:=hy;exact hSn) rfl ?_;refine A0p (fun y hy=> ?_)
   obtain rfl:y=V1.setRow gx (UF.cells ⟨sb,NM,DS⟩).toArray:=hy;clear hSn
   go_wp2_with fail
   go_meet;exact⟨gx,rfl,hgx,HLZ,HKZ,HZZ⟩
  obtain⟨gx,rfl,hgx,HL8,HK8,HZ8⟩:=hcut
  go_upto_region 12 with fail
  obtain⟨b1,hb1⟩:∃b,b=A5e NM:=⟨_,rfl⟩;obtain⟨b2,hb2⟩:∃b,b=typeB DS:=⟨_,rfl⟩;rw[<-hb1,<-hb2]at HFC;have HI1:=hzz (fun W hv=>A4s W NM HNL.out hv)
  have HI2:=hzz (fun W hv=>A2v W DS HDL.out hv);rw[<-hb1]at HI1;rw[<-hb2]at HI2
  have HND:=hzz (fun W ok (hW:LfS W g f.pa f.pn f.pc f.pool er6)=>A3v W g f.pa f.pn f.pc f.pool er6 ok 8 hW);have hgg7:g<w7.heap.size:=HJ7.out.l.lt;clear hb1 hb2
  go_cut [] (fun wx=>∃er7:Int,Hid (er7=0↔er6=0/\(b1&&b2)=true)/\Hid (LfS wx g f.pa f.pn f.pc f.pool er7)/\Hid (A0j (fun k=>k=g\/w7.heap.size<=k) w7 wx)/\Hid (wx.heap[gx]? =some (.cells (UF.cells ⟨sb,NM,DS⟩).toArray 52 (0,0))))
  case first=>
   have z1:=A0a HZ8.out 1 rfl;dsimp only[UF.cells]at z1
   go_wp2_with fail
   refine(HI1.out wc HL8.out.vw).mono ?_;rintro e w9 ⟨rfl,hb9⟩;have HL9:=hzz (HL8.out.below hb9);have HK9:=hzz (HK8.out.trans (A0j.of hb9));have HZ9:=hzz (A0e HZ8.out hb9);clear hb9 z1
   cases b1
   ·go_wp2_with fail
    refine(HND.out w9 false HL9.out).mono ?_;rintro e wa ⟨rfl,hl,hk⟩;have HLa:=hzz hl;have HKa:=hzz (HK9.out.trans (hk.weak (q:=fun k=>k=g\/w7.heap.size<=k) fun _ _ e=> .inl e))
    have HZa:=hzz (hk.row HZ9.out (by omega));clear hl hk
    go_wp2_with fail
    go_meet;exact⟨_,hzz (by rw[A1f (by decide)];simp),HLa,HKa,HZa⟩
   have z2:=A0a HZ9.out 2 rfl;dsimp only[UF.cells]at z2
   go_wp2_with fail
   refine(HI2.out w9 HL9.out.vw).mono ?_;rintro e wb ⟨rfl,hb9⟩;have HLb:=hzz (HL9.out.below hb9);have HKb:=hzz (HK9.out.trans (A0j.of hb9));have HZb:=hzz (A0e HZ9.out hb9);clear hb9 z2
   go_wp2_with fail
   refine(HND.out wb b2 HLb.out).mono ?_;rintro e wa ⟨rfl,hl,hk⟩;have HLa:=hzz hl;have HKa:=hzz (HKb.out.trans (hk.weak (q:=fun k=>k=g\/w7.heap.size<=k) fun _ _ e=> .inl e))
   have HZa:=hzz (hk.row HZb.out (by omega));clear hl hk
   go_wp2_with fail
   go_meet;exact⟨_,hzz (by rw[A1f (by decide)];simp),HLa,HKa,HZa⟩
  clear HL8 HK8 HZ8;obtain⟨er7,HE7,HL8,HK8,HZ8⟩:=hcut;have HJ8:=hzz (HJ7.out.new HL8.out HK8.out hgW (by omega));have z0:=A0a HZ8.out 0 rfl;have z1:=A0a HZ8.out 1 rfl
  have z2:=A0a HZ8.out 2 rfl;have o2:=A0a HJ8.out.o 2 rfl;dsimp only[UF.cells,UU.cells]at z0 z1 z2 o2;have h255:x.fn<=255:=by rw[HCNF.out];omega
  go_wp2_with (at_builtin;refine A0q D6x rfl _ _ rfl W.heap.size _ x.fn _ rfl HJ8.out.w.fields _ 1 _ _ rfl rfl rfl rfl (by omega) (by unfold maxLen;omega) HJ8.out.k.size ?_;intro v9 w9 hown9 hg9 hb9;have hk9:=A2p.app HJ8.out.w.fields hg9;have hown8:w9.ownsRow W.heap.size 52 3 v9 (x.fn+1) ((x.fields++[(⟨sb,NM,DS⟩:UF)]).flatMap UF.cells):=(by rw[List.flatMap_append];exact hown9);obtain⟨a9,c9,rfl,-,-⟩:=Ss.ofOwn UF.cells_length (by decide) hown8;have hB9:A0j (fun k=>W.heap.size<=k) wc w9:=A0j.ofB hb9 (Nat.le_trans (by simp) hg9.size);have HJ9:=hzz (HLF.out.appU HJ8.out hB9 hk9 (HJ8.out.w.fields1 hk9 hown8) hgoW (by omega) (by omega) HOP.out);have fo:=A0n HJ9.out.2.1 2;have lto:=A0r HJ9.out.2.1;have co:=A0a HJ9.out.2.1 2 rfl;dsimp only[UU.cells]at co;clear hown9 hown8 hg9 hb9 hk9 hB9)
  have HJ10:=hzz (HJ9.out.2.2 2 (.slice a9 (x.fn+1) c9) rfl);have HX10:=hzz (UU.p_fields1 HX6.out a9 (x.fn+1) c9 (⟨sb,NM,DS⟩:UF))
  have HX11:=hzz (show UU.p {x with fa:=a9,fn:=x.fn+1,fc:=c9,fields:=x.fields++[(⟨sb,NM,DS⟩:UF)]}=⟨CN,SN,none,0,0,(f.fields.take (j+1)).map (B1r f.pool),none,0,0,[]⟩ by
   rw[HX10.out,HTK.out,List.map_append,List.map_singleton,HFV.out])
  have HE11:=hzz (show er7=0↔er5=0/\(f.fields.take (j+1)).all (B4b f.pool)=true by
   rw[HE7.out,HE6.out,HTK.out,List.all_append];simp[HFC.out,and_assoc])
  clear HX10 HJ9 HX6 HE6 HE7 HJ8 HJ7 HL8 HK8 HZ8 HGD fo lto co z0 z1 z2 o2;go_roundg (f.fn-(j+1))
  case measure=>omega
  exact⟨j+1,er7,_,by omega,rfl,by go_num,HE11,HX11,HJ10⟩
 have hfull:f.fields.take j=f.fields:=List.take_of_length_le (by rw[HR.out.fields.1];omega);rw[hfull]at HE6 HX6;have hnl:¬((j:Int)<f.fn):=by omega
 have c4:=A0a (HFW.out wr HJ6.out.k) 4 rfl;dsimp only[KF.cells]at c4
 go_wp2_with fail
 go_loopg [74] f.mn (fun gn i wr=>∃(jm:Nat) (er9:Int) (x9:UU),jm<=f.mn/\gn=f.mn-jm/\i= .int .i64 jm/\Hid (er9=0↔er6=0/\(f.methods.take jm).all (B9m f.pool)=true)/\Hid (x9.p=⟨CN,SN,none,0,0,f.fields.map (B1r f.pool),none,0,0,(f.methods.take jm).map (B9k f.pool)⟩)/\Hid (C3c W wr g go f.pa f.pn f.pc f.pool er9 x9))
 case atStart=>exact⟨0,er6,x,by omega,by omega,by go_num,hzz (by simp),hzz (by rw[HX6.out];rfl),HJ6⟩
 clear HJ6 c4;obtain⟨jm,er9,x9,hjm,rfl,rfl,HE9,HX9,HJ9⟩:=hrel;by_cases hlt:jm<f.mn
 ·have hlj:x9.methods.length=jm:=by
   have h1:=congrArg (fun u=>u.methods.length) HX9.out;have h2:=HR.out.methods.1;simp only[UU.p,List.length_map,List.length_take]at h1;omega
  have hcn:x9.mn=jm:=by
   obtain⟨a9,c9,e9,h9,_⟩:=Ss.ofOwn UM.cells_length (by decide) HJ9.out.w.methods
   cases e9
   rw[<-hlj];exact h9.1.symm
  have HCNM:=hzz hcn;have HS:=hzz (HR.out.below (HBW.out wr HJ9.out.k)).methods;have hj1:(jm:Int)<f.mn:=by omega
  have hmn:f.mn<=64:=HMN.out;obtain⟨bq,off,m,hbq,hbl,hs,q⟩:=HS.out.getC jm hlt;have q0:=q 0 (by omega);have q1:=q 1 (by omega);have q2:=q 2 (by omega);have q3:=q 3 (by omega)
  have q4:=q 4 (by omega);have q5:=q 5 (by omega);have q6:=q 6 (by omega);have q7:=q 7 (by omega);rw[Nat.add_zero]at q0
  simp only[KM.cells,List.getElem?_cons_zero,List.getElem?_cons_succ]at q0 q1 q2 q3 q4 q5 q6 q7
  have HTK:=hzz (show f.methods.take (jm+1)=f.methods.take jm++[m] by
   have hjl:=(gsz hs).1;rw[List.take_succ_eq_append_getElem hjl,(gsz hs).2])
  have HMM:=hzz (List.mem_of_getElem? hs);clear hs q hlt HS hlj hcn
  go_upto_region 18 with fail
  have hb6:Below wr.heap.size wr (wr.alloc (.cells #[.int .i64 m.fl,.int .i64 m.nm,.int .i64 m.ds,.int .i64 m.st,.int .i64 m.lo,.slice m.ca m.cn m.cc,.slice m.ta m.tn m.tc,.slice m.ma m.mn m.mc] 65)):=A0f _ _
  have HJ7:=hzz ((HJ9.out.below hb6).below (brz.drew))
  have HGM:=hzz (show(wr.alloc (.cells #[.int .i64 m.fl,.int .i64 m.nm,.int .i64 m.ds,.int .i64 m.st,.int .i64 m.lo,.slice m.ca m.cn m.cc,.slice m.ta m.tn m.tc,.slice m.ma m.mn m.mc] 65)).drew.heap[wr.heap.size]? =some (.cells m.cells.toArray 65 (0,0))from heap_alloc_last wr (.cells #[.int .i64 m.fl,.int .i64 m.nm,.int .i64 m.ds,.int .i64 m.st,.int .i64 m.lo,.slice m.ca m.cn m.cc,.slice m.ta m.tn m.tc,.slice m.ma m.mn m.mc] 65))
  have hggm:g<wr.heap.size:=HJ9.out.l.lt;have hWr:W.heap.size<=wr.heap.size:=HJ9.out.k.size;clear hb6 HJ9 q0 q1 q2 q3 q4 q5 q6 q7 hbq hbl;generalize wr.heap.size=gm at*
  have hSw:Q18 go gm m (.slice x9.ma x9.mn x9.mc) (wr.alloc (.cells #[.int .i64 m.fl,.int .i64 m.nm,.int .i64 m.ds,.int .i64 m.st,.int .i64 m.lo,.slice m.ca m.cn m.cc,.slice m.ta m.tn m.tc,.slice m.ma m.mn m.mc] 65)).drew:=⟨HGM.out,A0a HJ7.out.o 3 rfl⟩
  have l0:=fun z (h:Q18 go gm m (.slice x9.ma x9.mn x9.mc) z)=>A0a h.1 0 rfl
  have l1:=fun z (h:Q18 go gm m (.slice x9.ma x9.mn x9.mc) z)=>A0a h.1 1 rfl
  have l2:=fun z (h:Q18 go gm m (.slice x9.ma x9.mn x9.mc) z)=>A0a h.1 2 rfl
  have l3:=fun z (h:Q18 go gm m (.slice x9.ma x9.mn x9.mc) z)=>A0a h.1 3 rfl
  have l4:=fun z (h:Q18 go gm m (.slice x9.ma x9.mn x9.mc) z)=>A0a h.1 4 rfl
  have l5:=fun z (h:Q18 go gm m (.slice x9.ma x9.mn x9.mc) z)=>A0a h.1 5 rfl
  have l6:=fun z (h:Q18 go gm m (.slice x9.ma x9.mn x9.mc) z)=>A0a h.1 6 rfl
  have l7:=fun z (h:Q18 go gm m (.slice x9.ma x9.mn x9.mc) z)=>A0a h.1 7 rfl
  have l8:=fun z (h:Q18 go gm m (.slice x9.ma x9.mn x9.mc) z)=>h.2
  dsimp only[KM.cells]at l0 l1 l2 l3 l4 l5 l6 l7
  refine A0t (Q18 go gm m (.slice x9.ma x9.mn x9.mc)) 8 [(0,true),(1,true),(2,true),(3,true),(4,false),(5,false),(6,false),(7,true)] (by kernel_rfl) (by kernel_rfl) (fun c a d v w h=>by cases d<;>exact h) ?_
  generalize(wr.alloc (.cells #[.int .i64 m.fl,.int .i64 m.nm,.int .i64 m.ds,.int .i64 m.st,.int .i64 m.lo,.slice m.ca m.cn m.cc,.slice m.ta m.tn m.tc,.slice m.ma m.mn m.mc] 65)).drew=w7 at*
  iterate 4
   refine A0d fun K hK=>tkF ?_
   go_simp
   try go_bits
   refine hK _ _ ?_;clear hK K
  have HME:=hzz (C1j w7 w g f.pa f.pn f.pc f.pool er9 m HJ7.out.l (HR.out.each m HMM.out) (HBW.out w7 HJ7.out.k) HLG.out (HMO.out m HMM.out));refine A0d fun K hK=>alF ?_
  go_step;refine HME.out.mono ?_;rintro e V1 ⟨y,hyp,hyo,rfl,⟨erb,heb,hl⟩,hk⟩;have HY:=hzz hyp;have HEb:=hzz heb;have HJ1:=hzz (HJ7.out.call hl hk hgW (by omega))
  have HYO:=hzz (hyo.mono (show W.heap.size<=w7.heap.size from HJ7.out.k.size));have hSx:Q18 go gm m (.slice x9.ma x9.mn x9.mc) V1:=⟨hk.row hSw.1 (by omega),A0a HJ1.out.o 3 rfl⟩
  clear hl hk hSw heb hyp hyo HJ7 HME;have hSw:=hSx;clear hSx;dsimp only[UM.cells];go_simp
  first|refine⟨hSw,hK _ _ ?_⟩|refine hK _ _ ?_
  clear hK K;refine A0d fun K hK=>alF ?_
  go_step
  have hal:Below V1.heap.size V1 (V1.alloc (.cells #[.bool y.st,.string ⟨y.nm.toArray⟩,.string ⟨y.ds.toArray⟩,.int .i64 y.sk,.int .i64 y.lo,.slice y.ca y.cn y.cc,.slice y.ta y.tn y.tc,.slice y.ma y.mn y.mc] A1d)):=A0f _ _
  have hSx:Q18 go gm m (.slice x9.ma x9.mn x9.mc) (V1.alloc (.cells #[.bool y.st,.string ⟨y.nm.toArray⟩,.string ⟨y.ds.toArray⟩,.int .i64 y.sk,.int .i64 y.lo,.slice y.ca y.cn y.cc,.slice y.ta y.tn y.tc,.slice y.ma y.mn y.mc] A1d)):=⟨A0e hSw.1 hal,A0c hal hSw.2⟩
  refine⟨hSx,hK _ _ ?_⟩;clear hK K hSx hal;have HGM3:=hzz hSw.1;clear hSw;refine A0d fun K hK=>alF ?_
  change Oper.wp _ _ _ _ _ _;have h255:x9.mn<=255:=by rw[HCNM.out];omega
  refine A3h D4t (ops:= #[]) rfl _ _ _ rfl W.heap.size _ x9.mn _ rfl (HJ1.out.w.methods.alloc _) _ 1 _ rfl (Src.litS (m:=1) rfl rfl D4t.1) (by omega) (by unfold maxLen;omega) (Nat.le_trans HJ1.out.k.size (by simp)) ?_
  intro v9 w9 hown9 hg9 hb9;have hk9:=A2p.app HJ1.out.w.methods hg9
  have hown8:w9.ownsRow W.heap.size A1d 8 v9 (x9.mn+1) ((x9.methods++[y]).flatMap UM.cells):=(by rw[List.flatMap_append];exact hown9)
  have hyO:=HYO.out.keptT hk9 (by decide) (by decide) (by decide) (by decide);obtain⟨a9,c9,rfl,-,-⟩:=Ss.ofOwn UM.cells_length (by decide) hown8
  have hB9:A0j (fun k=>W.heap.size<=k) V1 w9:=(A0j.of (A0f _ _)).trans (A0j.ofB hb9 (by have:=hg9.size;simpa using this))
  have HJA:=hzz (HLF.out.appU HJ1.out hB9 hk9 (HJ1.out.w.methods1 hk9 hown8 hyO) hgoW (by omega) (by omega) HOP.out)
  have hSw:Q18 go gm m (.slice x9.ma x9.mn x9.mc) w9:=⟨hk9.2 _ _ _ _ HGM3.out (by decide),A0a HJA.out.2.1 3 rfl⟩;clear hown9 hown8 hg9 hb9 hk9 hB9 HGM3 HJ1 HYO hyO HGM;refine⟨hSw,hK _ _ ?_⟩;clear hK K
  iterate 1
   refine A0d fun K hK=>tkF ?_
   go_simp
   try go_bits
   refine hK _ _ ?_;clear hK K
  have fo:=A0n HJA.out.2.1 3;have lto:=A0r HJA.out.2.1;have co:=A0a HJA.out.2.1 3 rfl;dsimp only[UU.cells]at co;refine A1u (laF ?_);go_step
  have HJ10:=hzz (HJA.out.2.2 3 (.slice a9 (x9.mn+1) c9) rfl);have HX10:=hzz (UU.p_methods1 HX9.out a9 (x9.mn+1) c9 y)
  have HX11:=hzz (show UU.p {x9 with ma:=a9,mn:=x9.mn+1,mc:=c9,methods:=x9.methods++[y]}=⟨CN,SN,none,0,0,f.fields.map (B1r f.pool),none,0,0,(f.methods.take (jm+1)).map (B9k f.pool)⟩ by
   rw[HX10.out,HTK.out,List.map_append,List.map_singleton,HY.out])
  have HE11:=hzz (show erb=0↔er6=0/\(f.methods.take (jm+1)).all (B9m f.pool)=true by
   rw[HEb.out,HE9.out,HTK.out,List.all_append];simp[and_assoc])
  clear HX10 HJA HX9 HE9 HEb HY hSw fo lto co l0 l1 l2 l3 l4 l5 l6 l7 l8
  go_wp2_with fail
  go_roundg (f.mn-(jm+1))
  case measure=>omega
  exact⟨jm+1,erb,_,by omega,rfl,by go_num,HE11,HX11,HJ10⟩
 have hfull:f.methods.take jm=f.methods:=List.take_of_length_le (by rw[HR.out.methods.1];omega);rw[hfull]at HE9 HX9;have hnl:¬((jm:Int)<f.mn):=by omega
 have ce:wr.cell? ⟨g,1,none⟩=some (.int .i64 er9):=A0a HJ9.out.l.k 1 rfl
 have HLC:=hzz (show er9=0↔B6t f=true by
  rw[HE9.out,HE6.out,HE5.out,HE4.out];unfold B6t;rw[<-HCK.out];simp[and_assoc])
 have HLV:=hzz (show x9.p=C0w f by
  rw[HX9.out];unfold C0w;rw[<-HCN.out,<-HSN.out])
 have HZ9:=hzz (HZW.out wr HJ9.out.k);have HB9:=hzz (HBW.out wr HJ9.out.k);have hWr:W.heap.size<=wr.heap.size:=HJ9.out.k.size;by_cases h0:er9=0
 ·have e0:(er9 !=0)=false:=by simp[h0]
  have HH:=hzz h0;clear h0
  go_upto_region 22 with fail
  refine wp_region_lit ?_;refine A0y rfl _ _ rfl _ rfl _ _ _ _ HJ9.out.o Tryz.underlying32 rfl A5s ?_;refine wpList_store_row rfl _ _ _ rfl _ _ rfl rfl _ _ HZ9.out A5s rfl (C6q _) ?_
  go_wp2_with fail
  refine bodyPost_ret (A1z rfl _ _ (w.heap.size+1) A4u (UU.cells _).toArray (0,0) _ rfl (setRow_heap _ _ _ _ _ _ HZ9.out) Tryz.underlying32 rfl A5s) rfl ?_
  have hks:A0j (fun k=>k=w.heap.size+1) wr (wr.setRow (w.heap.size+1) x9.cells.toArray):=A0j.setrow (A0j.refl (fun k=>k=w.heap.size+1) _) (.inl rfl) _
  exact⟨x9,0,rfl,⟨fun _=>HLC.out.1 HH.out,fun _=>rfl⟩,fun _=>HLV.out,fun h=>absurd rfl h,fun h=>(by rw[<-HCK.out]at h;cases h),(HJ9.out.w.keepP hks (fun y hy=> .inl (by omega))).mono (by omega),hks.below HB9.out nlz (fun k hk=>by omega)⟩
 have e0:(er9 !=0)=true:=by simp[h0]
 have HH:=hzz h0;clear h0
 go_upto_region 21 with fail
 have hks:A0j (fun k=>k=w.heap.size+1) wr (wr.drew.setRow (w.heap.size+1) u0.cells.toArray):=A0j.setrow (A0j.of (p:=fun k=>k=w.heap.size+1) (brz.drew)) (.inl rfl) _;have HKS:=hzz hks
 have hSw:QE g er9 wr.drew:=ce;have l0:∀z,QE g er9 z->z.cell? ⟨g,1,none⟩=some (.int .i64 er9):=fun z h=>h
 refine A0h (QE g er9) (.of [(0,true),(1,true),(2,true),(3,true),(4,true),(5,false)] (.stir [(6,true)])) (by kernel_rfl) (by kernel_rfl) (fun c a d v w h=>by cases d<;>exact h) ?_
 iterate 5
  refine A0b fun K hK=>tkF ?_
  go_simp
  try go_bits
  refine hK _ _ ?_;clear hK K
 refine A0b fun K hK=>alF ?_
 have HZD:wr.drew.heap[w.heap.size+1]? =some (.cells u0.cells.toArray A4u (0,0)):=HZ9.out
 refine wp_store_row A4u _ _ rfl (w.heap.size+1) u0.cells.toArray rfl rfl A4u u0.cells.toArray HZD A5s rfl (C6q _) ?_
 have hSn:QE g er9 (wr.drew.setRow (w.heap.size+1) u0.cells.toArray):=by
  have:=HKS.out.row HJ9.out.l.k (show ¬g=w.heap.size+1 by omega);exact A0a this 1 rfl
 refine⟨hSn,hK _ _ ?_⟩;clear hK K hSw hks;refine A0m (fun y=>y=wr.drew.setRow (w.heap.size+1) u0.cells.toArray) (fun y hy=>hy▸hSn) rfl ?_
 iterate 1
  refine A0i fun K hK=>tkX ?_
  go_simp
  try go_bits
  refine hK _ ?_;clear hK K
 refine A0p (fun y hy=> ?_);subst hy
 go_wp2_with fail
 refine bodyPost_ret (A1z rfl _ _ (w.heap.size+1) A4u u0.cells.toArray (0,0) _ rfl (setRow_heap _ _ _ _ _ _ HZD) Tryz.underlying32 rfl A5s) rfl ?_
 exact⟨u0,er9,rfl,HLC.out,fun h=>absurd h HH.out,fun _=>rfl,fun h=>(by rw[<-HCK.out]at h;cases h),D4v _ _,HKS.out.below HB9.out nlz (fun k hk=>by omega)⟩
theorem C4h(p:Int):∀(L:List RW) (i:Nat) (acc:Option Nat),(∀r∈L,r.pos≠p)->ixF p L i acc=acc
 |[],i,acc,_=>rfl
 |r::L,i,acc,h=>by
  rw[ixF,if_neg (h r List.mem_cons_self)];exact C4h p L (i+1) acc (fun x hx=>h x (List.mem_cons_of_mem _ hx))
theorem D4m(p:Int):∀(L:List RW) (i k:Nat) (acc:Option Nat) (r:RW),L[k]? =some r->r.pos=p->(∀(j:Nat) r',k<j->L[j]? =some r'->r'.pos≠p)->ixF p L i acc=some (i+k)
 |[],i,k,acc,r,h,_,_=>by simp at h
 |q::L,i,0,acc,r,h,hr,hn=>by
  simp at h;subst h;rw[ixF,if_pos hr];refine C4h p L (i+1) _ (fun x hx=> ?_);obtain⟨j,hj⟩:=List.getElem?_of_mem hx;exact hn (j+1) x (by omega) (by rw[List.getElem?_cons_succ];exact hj)
 |q::L,i,k+1,acc,r,h,hr,hn=>by
  rw[List.getElem?_cons_succ]at h;rw[ixF,D4m p L (i+1) k _ r h hr (fun j r' hj hr'=>hn (j+1) r' (by omega) (by rw[List.getElem?_cons_succ];exact hr'))];congr 1;omega
end
end Go.Proofs.YtclpkipaehpkdaaGreatDoor
