/- asm -/
import Derived.Test.YtclpkipaehpkdaaGreatDoorQ13AsmMade
import Derived.Test.YtclpkipaehpkdaaGreatDoorQ12AsmMade
set_option linter.unusedVariables false
set_option linter.unusedSimpArgs false
set_option maxRecDepth 100000
set_option maxHeartbeats 64000000
namespace Go.Proofs.YtclpkipaehpkdaaGreatDoor
section
open Go.ChangeShapes Go.WideShapes Go.ChangeAt Go.RowKit Go.Maps
theorem D8b:StE 22 A6e (.agg #[.int .i64 0,.int .i64 0,.int .i64 0,.int .i64 0,.string ⟨#[]⟩]) 5 48:=⟨by kernel_rfl,by kernel_rfl,rfl⟩
theorem A0v(w:World)(B g:Nat)(s:LW)(ok:Bool)(k:Int)(h:LoS w B g s):
  Calls Tryz.prog 33 #[.pointer (some ⟨g,0,none⟩),.bool ok,.int .i64 k] w (B1y (.tuple #[]) B g (s.need ok k) w):=by
 obtain⟨a,cap,b,hx⟩:=h;have H:=hzz hx;obtain⟨c0,c1,c2,f0,f1,f2,lt⟩:=hx.k.box;have HN:s.need ok k=⟨s.l,A2a s.e ok k⟩:=rfl;rw[HN];clear hx HN;generalize hE:A2a s.e ok k=E
 cases ok
 ·by_cases h0:s.e=0
  ·have e0:(s.e==0)=true:=by simpa using h0
   have HE:=hzz (show E=k by rw[<-hE];unfold A2a;rw[if_pos ⟨rfl,h0⟩]);clear hE h0;go_enter Tryz.func33,Tryz.ntmps33
   go_wp2_with fail
   go_end0;rw[HE.out];exact⟨rfl,⟨a,cap,b,H.out.set2 k⟩,A0u.set H.out.nk 2 _⟩
  have e0:(s.e==0)=false:=by simpa using h0
  have HE:E=s.e:=by rw[<-hE];unfold A2a;rw[if_neg (fun h=>h0 h.2)]
  rw[HE];clear HE hE h0;go_enter Tryz.func33,Tryz.ntmps33
  go_wp2_with fail
  go_end0;exact⟨rfl,⟨a,cap,b,H.out⟩,A0u.refl _ _⟩
 have HE:E=s.e:=by rw[<-hE];unfold A2a;rw[if_neg (fun h=>absurd h.1 (by decide))]
 rw[HE];clear HE hE;go_enter Tryz.func33,Tryz.ntmps33
 go_wp2_with fail
 go_end0;exact⟨rfl,⟨a,cap,b,H.out⟩,A0u.refl _ _⟩
theorem D1y(w:World):(zeroValue 3).run Tryz.prog w= .ok (.int .i64 0) w:=by kernel_rfl
theorem D3x{c k:KV}(hc:KOk c)(hk:KOk k)(h:E1g c=E1g k):c=k:=by
 have e:=B3x.inj (B1g hc) (by rw[h];exact B1g hk);obtain⟨a1,a2,a3,a4,a5⟩:=k;obtain⟨b1,b2,b3,b4,b5⟩:=c;simp[KV.cells]at e;obtain⟨rfl,rfl,rfl,rfl,rfl⟩:=e;rfl
theorem B2r.look{w:World}{b:Nat}{L:List KV}(h:B2r w b L){c:KV}(hc:KOk c)(ht:c.tag≠0):
  (Instr.lookup D5k (.map (some b)) (.agg c.cells.toArray) true).run Tryz.prog w= .ok (.tuple #[.int .i64 (((B2g L c).getD 0:Nat):Int),.bool (B2g L c).isSome]) w:=by
 obtain⟨D,h,hd⟩:=h;obtain⟨v,ps,hrun,hv⟩:=h.look_ok B3x Tryz.underlying90 (D1y w) (plainElem_int Tryz.underlying3 (a:=0) (by decide)) (B1g hc)
 obtain⟨i,rfl,hi,_⟩:=plainElem_int_inv Tryz.underlying3 hv;simp only[Prod.mk.injEq]at hi;have hat:=hi.1;rw[hd c hc ht]at hat;rw[hrun]
 cases hx:B2g L c with
 |none=>
  rw[hx]at hat;rw[Maps.has_false_of_atKey (fun z=>by rw[hd c hc ht,hx])];simp at hat;simp[<-hat]
 |some k=>
 rw[hx]at hat;rw[Maps.has_true_of_atKey (fun z=>by rw[hd c hc ht,hx])];simp at hat;simp[<-hat]
theorem C7a{L:List KV}{c k:KV}(hn:B2g L c=none):B2g (L++[c]) k=if eqK c k=true then some L.length else B2g L k:=by
 unfold B2g at hn⊢;rw[List.findIdx?_append];by_cases h:k=c
 ·subst h;have h1:eqK k k=true:=A8h.2 rfl;rw[hn,if_pos h1];simp[List.findIdx?_cons,h1]
 have h1:eqK k c=false:=by
  rw[Bool.eq_false_iff];intro hh;exact h (A8h.1 hh).symm
 rw[if_neg (fun hh=>h (A8h.1 hh))];simp[List.findIdx?_cons,h1]
theorem D5p{L:List KV}{k:KV}(ht:k.tag≠0):B2g (L++[kz]) k=B2g L k:=by
 unfold B2g;rw[List.findIdx?_append]
 have:eqK k kz=false:=by
  rw[Bool.eq_false_iff];intro hh;rw[<-A8h.1 hh]at ht;exact ht rfl
 simp[List.findIdx?_cons,this]
theorem B2r.kz{w:World}{b:Nat}{L:List KV}(h:B2r w b L):B2r w b (L++[kz]):=by
 obtain⟨D,h,hd⟩:=h;exact⟨D,h.mono (by simp),fun c hc ht z=>by rw[hd c hc ht z,D5p ht]⟩
theorem B2r.store{w:World}{b:Nat}{L:List KV}(h:B2r w b L){c:KV}(hc:KOk c)(ht:c.tag≠0)(hn:B2g L c=none)(hl:L.length<=1099511627776):
  ∃w',(Instr.mapUpdate D5k (.map (some b)) (.agg c.cells.toArray) (.int .i64 (L.length:Nat))).run Tryz.prog w= .ok () w'/\B2r w' b (L++[c])/\w.grownBy w' (some b):=by
 obtain⟨D,h,hd⟩:=h
 obtain⟨w',hrun,hown,hturn⟩:=h.store B3x Tryz.underlying90 (by unfold maxLen;omega) (val:= .int .i64 (L.length:Nat)) (B1g hc) (plainElem_int Tryz.underlying3 (A1j (by omega)))
 refine⟨w',hrun,⟨_,by simpa using hown,fun k hk hkt z=> ?_⟩,hturn.grown⟩;rw[C7a hn];by_cases e:k=c
 ·subst e;rw[if_pos (A8h.2 rfl),Maps.atKey_put_same h.isMap (by trivial)]
 rw[if_neg (fun hh=>e (A8h.1 hh)),Maps.atKey_put_other (fun hh=>e (D3x hk hc hh)),hd k hk hkt]
theorem B2r.obj{w:World}{b:Nat}{L:List KV}(h:B2r w b L):∃es cl,w.heap[b]? =some (.map es cl):=by
 obtain⟨D,⟨es,cl,hm,_⟩,_⟩:=h;exact⟨es,cl,hm⟩
theorem D7a{w w':World}{B:Nat}{e:TypeId}{size:Nat}{v:Value}{n:Nat}{xs:List Value}{b:Nat}(h:w.ownsRow B e size v n xs)(hb:∃es cl,w.heap[b]? =some (.map es cl))(hg:w.grownBy w' (some b)):w'.ownsRow B e size v n xs:=by
 refine⟨h.1,?_⟩
 rcases h.2 with h1|⟨g,cap,cur,hv,hB,hc,r⟩
 ·exact .inl h1
 refine .inr ⟨g,cap,cur,hv,hB,?_,r⟩
 have hne:g≠b:=by
  rintro rfl;obtain⟨es,cl,hm⟩:=hb;rw[hm]at hc
  cases hc
 rw[hg.block g (A0r hc) (fun e=>hne (by simpa using e))];exact hc
theorem E0w{w:World}{B:Nat}{size:Nat}{v:Value}{n:Nat}{xs:List Value}(h:w.ownsRow B A6e size v n xs):∀k,v.ownBlock=some k->B<=k/\¬C0h w.heap[k]? :=by
 intro k hk
 rcases h.2 with⟨h1,_⟩|⟨g,cap,cur,hv,hB,hc,r⟩
 ·rw[h1]at hk;cases hk
 rw[hv]at hk;simp[Value.ownBlock]at hk;subst hk;exact⟨hB,by rw[hc];exact fun hh=>hh.1 rfl⟩
theorem D4p{w:World}{B:Nat}{e:TypeId}{size:Nat}{v:Value}{n:Nat}{xs:List Value}{b:Nat}(h:w.ownsRow B e size v n xs)(hb:∃es cl,w.heap[b]? =some (.map es cl)):some b≠v.ownBlock:=by
 intro hk
 rcases h.2 with⟨h1,_⟩|⟨g,cap,cur,hv,hB,hc,r⟩
 ·rw[h1]at hk;cases hk
 rw[hv]at hk;simp[Value.ownBlock]at hk;subst hk;obtain⟨es,cl,hm⟩:=hb;rw[hm]at hc
 cases hc
structure LoY(w:World)(B g:Nat)(L M:List KV)(er:Int)(a:Option Addr)(cap b:Nat):Prop where
 k:C6z w g (.slice a L.length cap) (.map (some b)) (.int .i64 er) B3f
 o:w.ownsRow B A6e 5 (.slice a L.length cap) L.length (L.flatMap KV.cells)
 m:B2r w b M
 bB:B<=b
 gB:B<=g
 B0:0<B
 vw:VW w
theorem LoY.x{w:World}{B g:Nat}{L:List KV}{er:Int}{a:Option Addr}{cap b:Nat}(h:LoY w B g L L er a cap b):LoX w B g ⟨L,er⟩ a cap b:=⟨h.k,h.o,h.m,h.bB,h.gB,h.B0,h.vw⟩
theorem LoY.below{w w':World}{B g:Nat}{L M:List KV}{er:Int}{a:Option Addr}{cap b:Nat}(h:LoY w B g L M er a cap b)(hb:Below w.heap.size w w'):LoY w' B g L M er a cap b:=
 ⟨h.k.below hb,A0x h.o hb,h.m.below hb,h.bB,h.gB,h.B0,h.vw.below hb⟩
theorem LoY.kz{w:World}{B g:Nat}{L M:List KV}{er:Int}{a:Option Addr}{cap b:Nat}(h:LoY w B g L M er a cap b):LoY w B g L (M++[Go.Proofs.YtclpkipaehpkdaaGreatDoor.kz]) er a cap b:=⟨h.k,h.o,h.m.kz,h.bB,h.gB,h.B0,h.vw⟩
theorem LoY.app{w w9:World}{B g:Nat}{L M:List KV}{er:Int}{a:Option Addr}{cap b:Nat}{o:Obj}{c:KV}{a9:Option Addr}{c9:Nat}(h:LoY w B g L M er a cap b)
  (hg:(w.alloc o).grownBy w9 (Value.slice a L.length cap).ownBlock) (ho:w9.ownsRow B A6e 5 (.slice a9 (L.length+1) c9) (L.length+1) ((L++[c]).flatMap KV.cells)):
  LoY (w9.setCell ⟨g,0,none⟩ (.slice a9 (L.length+1) c9)) B g (L++[c]) M er a9 c9 b/\A0u B w (w9.setCell ⟨g,0,none⟩ (.slice a9 (L.length+1) c9))/\w9.heap[g]? =some (.cells #[.slice a L.length cap,.map (some b),.int .i64 er] B3f):=by
 have hal:=A0f w o;have hya:=h.below hal;have hkt:=A2p.app h.o hg;have hk9:w9.heap[g]? =some (.cells #[.slice a L.length cap,.map (some b),.int .i64 er] B3f):=hkt.2 _ _ _ _ h.k (by decide)
 have hm9:B2r w9 b M:=hya.m.kept hg (D4p hya.o hya.m.obj);have hke:A0u B w w9:=(A0u.of hal).trans (A0u.grown hg (fun k hk _=>E0w hya.o k hk))
 have hnk:B<=g/\¬C0h w9.heap[g]? :=⟨h.gB,by rw[hk9];exact fun hh=>hh.2 rfl⟩
 have hbg:b≠g:=by
  rintro rfl;obtain⟨es,cl,hm⟩:=hm9.obj;rw[hm]at hk9
  cases hk9
 have hkk:=hke.trans (A0u.set hnk 0 (.slice a9 (L.length+1) c9));refine⟨⟨?_,?_,hm9.setCell hbg _,h.bB,h.gB,h.B0,hkk.vw h.vw h.B0⟩,hkk,hk9⟩
 ·rw[List.length_append,List.length_singleton];exact A1k hk9 0 _
 rw[List.length_append,List.length_singleton];exact A0k ho (A1p hk9 0 _) (by decide)
def SQ(g gx o:Nat)(c:KV)(v:Value)(z:World):Prop:=z.heap[gx]? =some (.cells c.cells.toArray A6e (0,0))/\z.cell? ⟨g,o,none⟩=some v
theorem A3u(w:World)(B g:Nat)(s:LW)(c:KV)(h:LoS w B g s)(hc:KOk c)(ht:c.tag≠0)(hn:s.l.length<=1099511627776)(hB:B<=w.heap.size):
  Calls Tryz.prog 72 #[.pointer (some ⟨g,0,none⟩),.agg c.cells.toArray] w (B1y (.int .i64 ((s.put c).2:Nat)) B g (s.put c).1 w):=by
 obtain⟨a,cap,b,hx⟩:=h;have HX:=hzz hx;have HCK:=hzz hc;have HTG:=hzz ht;obtain⟨L,er⟩:=s;dsimp only at hn;have hb1:Below w.heap.size w (w.alloc (.cells c.cells.toArray A6e)):=A0f _ _
 have HB1:=hzz hb1;have HBX0:=hzz (heap_alloc_last w (.cells c.cells.toArray A6e));have HX1:=hzz (hx.below hb1);have hgw:g<w.heap.size:=hx.lt;have hbw:b<w.heap.size:=hx.m.lt
 obtain⟨C,hC⟩:=exz (c);have HCC:=hzz hC;rw[<-hC]at HBX0 HX1 HB1⊢;subst hC;clear hx hc ht hb1;obtain⟨ct,ca,cb,cn,cs⟩:=C;dsimp only[KV.cells]at HBX0 HX1 HB1⊢
 obtain⟨R,hR⟩:∃R,R=(⟨L,er⟩:LW).put ⟨ct,ca,cb,cn,cs⟩:=⟨_,rfl⟩;rw[<-hR];have HR:=hzz hR;clear hR;go_enter Tryz.func72,Tryz.ntmps72
 go_upto_region 1 with fail
 generalize w.alloc _=W at*;obtain⟨c0,c1,c2,f0,f1,f2,lt⟩:=HX1.out.k.box;have k0:=A0a HBX0.out 0 rfl;have k1:=A0a HBX0.out 1 rfl;have k2:=A0a HBX0.out 2 rfl
 have k3:=A0a HBX0.out 3 rfl;have k4:=A0a HBX0.out 4 rfl
 have hlk:∀n,(Instr.lookup D5k (.map (some b)) (.agg #[.int .i64 ct,.int .i64 ca,.int .i64 cb,.int .i64 cn,.string ⟨cs.toArray⟩]) true).run Tryz.prog (W.drewN n)= .ok (.tuple #[.int .i64 (((B2g L ⟨ct,ca,cb,cn,cs⟩).getD 0:Nat):Int),.bool (B2g L ⟨ct,ca,cb,cn,cs⟩).isSome]) (W.drewN n):=
  fun n=>(HX1.out.m.below (A5b W n)).look HCK.out HTG.out
 cases hi:B2g L ⟨ct,ca,cb,cn,cs⟩with
 |some i=>
  rw[hi]at hlk;dsimp only[Option.getD_some,Option.isSome_some]at hlk;have HRR:=hzz (show R=((⟨L,er⟩:LW),i) by rw[HR.out];unfold LW.put;rw[hi]);clear hi
  go_quiet (fail)
  go_wp2_with fail
  go_ret;rw[HRR.out];exact⟨rfl,⟨a,cap,b,HX1.out.below (A5b _ _)⟩,A0u.of (HB1.out.trans ((A5b _ _).mono HB1.out.size))⟩
 |none=>
 rw[hi]at hlk;dsimp only[Option.getD_none,Option.isSome_none]at hlk
 have HRR:=hzz (show R=((⟨A2t L ⟨ct,ca,cb,cn,cs⟩,er⟩:LW).need (decide ((A2t L ⟨ct,ca,cb,cn,cs⟩).length<=1024)) 9,L.length) by rw[HR.out];unfold LW.put;rw[hi]);have HI:=hzz hi;clear hi
 go_quiet (fail)
 have hbn:=A5b W nq;have HB2:=btz HB1 hbn;have HX2:=hzz (HX1.out.below hbn);have HBX2:=hzz (A0e HBX0.out hbn);clear hlk hbn c0 c1 c2 f0 f1 f2 lt k0 k1 k2 k3 k4 HX1 HBX0 HB1
 generalize W.drewN nq=W2 at*;obtain⟨c0,c1,c2,f0,f1,f2,lt⟩:=HX2.out.k.box
 go_upto_region 5 with fail
 obtain⟨W5,hup,hm5,hg5⟩:=(HX2.out.m.below (brz.drew)).store HCK.out HTG.out HI.out hn;dsimp only[KV.cells]at hup;have HM5:=hzz hm5;have HG5:=hzz hg5;clear hm5 hg5
 refine A0t (B1s W2.drew) 6 [(0,true),(1,true),(2,true),(3,true),(4,true),(5,true)] (by kernel_rfl) (by kernel_rfl) (fun c a d v w h=>by cases d<;>exact h) ?_
 have hSw:B1s W2.drew W2.drew:=rfl;have l0:∀z,B1s W2.drew z->z.cell? ⟨g,1,none⟩=some (.map (some b)):=fun z h=>by rw[h];exact c1
 have l1:∀z,B1s W2.drew z->z.cell? ⟨w.heap.size,0,none⟩=some (.int .i64 ct):=fun z h=>by rw[h];exact A0a HBX2.out 0 rfl
 have l2:∀z,B1s W2.drew z->z.cell? ⟨w.heap.size,1,none⟩=some (.int .i64 ca):=fun z h=>by rw[h];exact A0a HBX2.out 1 rfl
 have l3:∀z,B1s W2.drew z->z.cell? ⟨w.heap.size,2,none⟩=some (.int .i64 cb):=fun z h=>by rw[h];exact A0a HBX2.out 2 rfl
 have l4:∀z,B1s W2.drew z->z.cell? ⟨w.heap.size,3,none⟩=some (.int .i64 cn):=fun z h=>by rw[h];exact A0a HBX2.out 3 rfl
 have l5:∀z,B1s W2.drew z->z.cell? ⟨w.heap.size,4,none⟩=some (.string ⟨cs.toArray⟩):=fun z h=>by rw[h];exact A0a HBX2.out 4 rfl
 iterate 6
  refine A0d fun K hK=>tkF ?_
  go_simp
  try go_bits
  refine hK _ _ ?_;clear hK K
 refine A1u (laF ?_);go_step;clear l0 l1 l2 l3 l4 l5 hSw
 have hmb:∀k,some b=some k->k<W2.drew.heap.size->B<=k/\¬C0h W2.drew.heap[k]? :=fun k e _=>by
  cases e
  exact HX2.out.nm
 have HK5:=hzz (A0u.grown HG5.out hmb);have HB5:=hzz (HB2.out.trans (((Below.refl W2.heap.size W2).drew).mono HB2.out.size))
 have HC5:=hzz ((A0u.of HB2.out:A0u B w W2).trans ((A0u.of (brz.drew):A0u B W2 W2.drew).trans HK5.out))
 have hgb:some g≠some b:=fun e=>HX2.out.bg (by cases e;rfl)
 have HL5:=hzz (show W5.heap[g]? =some (.cells #[.slice a L.length cap,.map (some b),.int .i64 er] B3f)from by rw[HG5.out.block g HX2.out.lt hgb];exact HX2.out.k)
 have HO5:=hzz (show W5.ownsRow B A6e 5 (.slice a L.length cap) L.length (L.flatMap KV.cells)from D7a (A0x HX2.out.o (brz.drew)) (HX2.out.m.below (brz.drew)).obj HG5.out)
 have hbx:some w.heap.size≠some b:=fun e=>by cases e;omega
 have HBQ:=hzz (show W5.heap[w.heap.size]? =some (.cells #[.int .i64 ct,.int .i64 ca,.int .i64 cb,.int .i64 cn,.string ⟨cs.toArray⟩] A6e)from by rw[HG5.out.block w.heap.size (A0r HBX2.out) hbx];exact HBX2.out)
 have hs5:w.heap.size<W5.heap.size:=Nat.lt_of_lt_of_le (A0r HBX2.out) HG5.out.size;have HV5:=hzz (HC5.out.vw HX.out.vw HX.out.B0);have hBb:B<=b:=HX.out.bB;have hBg:B<=g:=HX.out.gB
 have hgk:=HX.out.bg;clear HB2 HX2 HBX2 HK5 HG5 HB5 hmb hgb hbx c0 c1 c2 f0 f1 f2 lt hup
 have HY5:=hzz (show LoY W5 B g L (L++[⟨ct,ca,cb,cn,cs⟩]) er a cap b from⟨HL5.out,HO5.out,HM5.out,hBb,hBg,HX.out.B0,HV5.out⟩)
 have hob:=fun k (h:(Value.slice a L.length cap).ownBlock=some k)=>(HX.out.o.lt k h).2
 have HOB:=hzz hob;clear HL5 HO5 HM5 HV5 hob
 go_wp2_with fail
 go_upto_region 6 with fail
 have HC6:=hzz (HC5.out.trans (A0u.of ((Below.refl W5.heap.size W5).drew)));have HY6:=hzz (HY5.out.below (brz.drew))
 have hSw:SQ g w.heap.size 0 ⟨ct,ca,cb,cn,cs⟩ (.slice a L.length cap) W5.drew:=⟨HBQ.out,A0a HY6.out.k 0 rfl⟩;have hs6:w.heap.size<W5.drew.heap.size:=hs5;clear HC5 HY5 HBQ hs5
 have l0:∀z,SQ g w.heap.size 0 ⟨ct,ca,cb,cn,cs⟩ (.slice a L.length cap) z->z.cell? ⟨g,0,none⟩=some (.slice a L.length cap):=fun z h=>h.2
 have l1:∀z,SQ g w.heap.size 0 ⟨ct,ca,cb,cn,cs⟩ (.slice a L.length cap) z->z.cell? ⟨w.heap.size,0,none⟩=some (.int .i64 ct):=fun z h=>A0a h.1 0 rfl
 have l2:∀z,SQ g w.heap.size 0 ⟨ct,ca,cb,cn,cs⟩ (.slice a L.length cap) z->z.cell? ⟨w.heap.size,1,none⟩=some (.int .i64 ca):=fun z h=>A0a h.1 1 rfl
 have l3:∀z,SQ g w.heap.size 0 ⟨ct,ca,cb,cn,cs⟩ (.slice a L.length cap) z->z.cell? ⟨w.heap.size,2,none⟩=some (.int .i64 cb):=fun z h=>A0a h.1 2 rfl
 have l4:∀z,SQ g w.heap.size 0 ⟨ct,ca,cb,cn,cs⟩ (.slice a L.length cap) z->z.cell? ⟨w.heap.size,3,none⟩=some (.int .i64 cn):=fun z h=>A0a h.1 3 rfl
 have l5:∀z,SQ g w.heap.size 0 ⟨ct,ca,cb,cn,cs⟩ (.slice a L.length cap) z->z.cell? ⟨w.heap.size,4,none⟩=some (.string ⟨cs.toArray⟩):=fun z h=>A0a h.1 4 rfl
 refine A0t (SQ g w.heap.size 0 ⟨ct,ca,cb,cn,cs⟩ (.slice a L.length cap)) 10 [(0,true),(1,true),(2,true),(3,true),(4,true),(5,true),(6,false),(7,false),(8,true),(9,true)] (by kernel_rfl) (by kernel_rfl) (fun c a d v w h=>by cases d<;>exact h) ?_
 generalize W5.drew=W6 at*
 iterate 6
  refine A0d fun K hK=>tkF ?_
  go_simp
  try go_bits
  refine hK _ _ ?_;clear hK K
 refine A0d fun K hK=>alF ?_
 go_step;have hal:Below W6.heap.size W6 (W6.alloc (.cells #[.int .i64 ct,.int .i64 ca,.int .i64 cb,.int .i64 cn,.string ⟨cs.toArray⟩] A6e)):=A0f _ _
 have hSx:SQ g w.heap.size 0 ⟨ct,ca,cb,cn,cs⟩ (.slice a L.length cap) (W6.alloc (.cells #[.int .i64 ct,.int .i64 ca,.int .i64 cb,.int .i64 cn,.string ⟨cs.toArray⟩] A6e)):=⟨A0e hSw.1 hal,A0c hal hSw.2⟩
 refine⟨hSx,hK _ _ ?_⟩;clear hK K;refine A0d fun K hK=>alF ?_
 change Oper.wp _ _ _ _ _ _
 refine A3h D8b (ops:= #[]) rfl _ _ _ rfl B _ L.length _ rfl (HY6.out.o.alloc _) _ 1 _ rfl (Src.litS (m:=1) rfl rfl D8b.1) (by omega) (by unfold maxLen;omega) (Nat.le_trans hB (by simp;omega)) ?_
 intro v9 w9 hown9 hg9 hb9;have hown8:w9.ownsRow B A6e 5 v9 (L.length+1) ((L++[(⟨ct,ca,cb,cn,cs⟩:KV)]).flatMap KV.cells):=(by rw[List.flatMap_append];exact hown9)
 obtain⟨a9,c9,rfl,-,-⟩:=Ss.ofOwn KV.cells_length (by decide) hown8;have HAP:=hzz (HY6.out.app hg9 hown8)
 have HBQ:=hzz (show w9.heap[w.heap.size]? =some (.cells #[.int .i64 ct,.int .i64 ca,.int .i64 cb,.int .i64 cn,.string ⟨cs.toArray⟩] A6e)from by
  rw[hg9.block w.heap.size (Nat.lt_of_lt_of_le hs6 hal.size) (fun e=>Nat.lt_irrefl _ (HOB.out _ e.symm))];exact hSx.1)
 have hSn:SQ g w.heap.size 0 ⟨ct,ca,cb,cn,cs⟩ (.slice a L.length cap) w9:=⟨HBQ.out,A0a HAP.out.2.2 0 rfl⟩;clear hSw hSx hal hown9 hown8 hg9 hb9;have hSw:=hSn;clear hSn;refine⟨hSw,hK _ _ ?_⟩
 clear hK K
 iterate 2
  refine A0d fun K hK=>tkF ?_
  go_simp
  try go_bits
  refine hK _ _ ?_;clear hK K
 have fo:=A0n HAP.out.2.2 0;have lto:=A0r HAP.out.2.2;have co:=A0a HAP.out.2.2 0 rfl;refine A1u (laF ?_);go_step
 have HBR:=hzz (A1r HBQ.out (show w.heap.size≠g by omega) 0 (.slice a9 (L.length+1) c9));have HY7:=hzz HAP.out.1;have HC7:=hzz (HC6.out.trans HAP.out.2.1)
 clear HAP HBQ HC6 HY6 l0 l1 l2 l3 l4 l5 hSw fo lto co hs6;generalize w9.setCell ⟨g,0,none⟩ (.slice a9 (L.length+1) c9)=W7 at*
 have k0:W7.cell? ⟨w.heap.size,0,none⟩=some (.int .i64 ct):=A0a HBR.out 0 rfl
 have HNF:=hzz (fun(W:World) (L':List KV) (h:LoS W B g ⟨L',er⟩)=>A0v W B g ⟨L',er⟩ (decide (L'.length<=1024)) 9 h);by_cases h5:ct=5
 ·have e5:(ct==5)=true:=by rw[h5];rfl
  have HP:=hzz (show A2t L ⟨ct,ca,cb,cn,cs⟩=(L++[⟨ct,ca,cb,cn,cs⟩])++[kz] by unfold A2t;rw[if_pos h5]);rw[HP.out]at HRR;clear h5
  go_upto_region 8 with fail
  clear k0 e5;obtain⟨c0,c1,c2,f0,f1,f2,lt⟩:=HY7.out.k.box;obtain⟨L1,hL1⟩:=exz (L++[(⟨ct,ca,cb,cn,cs⟩:KV)]);have hnb:L1.length<=1099511627777:=by rw[hL1];simp;omega
  have HS7:B<=W7.heap.size:=Nat.le_trans hBg (Nat.le_of_lt HY7.out.k.box.lt);rw[<-hL1]at c0 HRR;rw[<-hL1]at HY7;clear hL1 HP
  go_wp2_with (at_builtin;refine A0q D8b rfl _ _ rfl B _ L1.length _ rfl HY7.out.o _ 1 _ _ rfl (by simp) rfl rfl (by omega) (by unfold maxLen;omega) HS7 ?_;intro v9 w9 hown9 hg9 hb9;have hown8:w9.ownsRow B A6e 5 v9 (L1.length+1) ((L1++[kz]).flatMap KV.cells):=(by rw[List.flatMap_append];exact hown9);obtain⟨b9,d9,rfl,-,-⟩:=Ss.ofOwn KV.cells_length (by decide) hown8;have HAP:=hzz (HY7.out.app hg9 hown8);have fo:=A0n HAP.out.2.2 0;have lto:=A0r HAP.out.2.2;have co:=A0a HAP.out.2.2 0 rfl;clear hown9 hown8 hg9 hb9 c0 c1 c2 f0 f1 f2 lt)
  have HN:=hzz (HNF.out _ (L1++[kz]) ⟨_,_,b,(HAP.out.1.kz).x⟩)
  rw[show decide (((L1.length:Nat):Int)+1<=1024)=decide ((L1++[kz]).length<=1024)from decide_eq_decide.2 (by rw[List.length_append,List.length_singleton];omega)];refine HN.out.mono ?_
  rintro e W8 ⟨rfl,hs8,hk8⟩;clear fo lto co
  go_wp2_with fail
  go_ret;rw[HRR.out];exact⟨rfl,hs8,(HC7.out.trans HAP.out.2.1).trans hk8⟩
 have e5:(ct==5)=false:=by simpa using h5
 have HP:=hzz (show A2t L ⟨ct,ca,cb,cn,cs⟩=L++[⟨ct,ca,cb,cn,cs⟩] by unfold A2t;rw[if_neg h5,List.append_nil]);rw[HP.out]at HRR;clear h5;obtain⟨c0,c1,c2,f0,f1,f2,lt⟩:=HY7.out.k.box
 have HN:=hzz (HNF.out W7 _ ⟨a9,c9,b,HY7.out.x⟩);obtain⟨nl,hnl⟩:∃nl,nl=(L++[(⟨ct,ca,cb,cn,cs⟩:KV)]).length:=⟨_,rfl⟩;have hnb:nl<=1099511627777:=by rw[hnl];simp;omega
 obtain⟨bq,hbq⟩:=exz (decide (nl<=1024));have hbi:decide ((nl:Int)<=1024)=bq:=by rw[hbq];exact decide_eq_decide.2 (by omega)
 rw[<-hnl]at c0 HN HRR;rw[<-hbq]at HN HRR;clear hnl hbq
 go_wp2_with fail
 refine HN.out.mono ?_;rintro e W8 ⟨rfl,hs8,hk8⟩
 go_wp2_with fail
 go_ret;rw[HRR.out];exact⟨rfl,hs8,HC7.out.trans hk8⟩
theorem A0u.bnd{B:Nat}{w w':World}(h:A0u B w w')(hB:B<=w.heap.size):B<=w'.heap.size:=Nat.le_trans hB h.size
theorem D3q{t:List UInt8}(h:t.length<=65536):KOk ⟨1,0,0,0,t⟩:=⟨A1j (by dsimp only;omega),A1j (by dsimp only;omega),A1j (by dsimp only;omega),A1j (by dsimp only;omega),by show t.length<=_;omega⟩
theorem A7f{tag a b n:Int}(ht:0<=tag/\tag<=65536)(ha:0<=a/\a<=1099511627776)(hb:0<=b/\b<=1099511627776)(hn:A4b n):KOk ⟨tag,a,b,n,[]⟩:=⟨A1j (by dsimp only;omega),A1j (by dsimp only;omega),A1j (by dsimp only;omega),hn,by simp⟩
theorem A2i(w:World)(B g:Nat)(s:LW)(t:List UInt8)(h:LoS w B g s)(ht:t.length<=65536)(hn:s.l.length<=1099511627776)(hB:B<=w.heap.size):
  Calls Tryz.prog 35 #[.pointer (some ⟨g,0,none⟩),.string ⟨t.toArray⟩] w (B1y (.int .i64 ((s.text t).2:Nat)) B g (s.text t).1 w):=by
 have HP:=hzz (A3u w B g s ⟨1,0,0,0,t⟩ h (D3q ht) (show(1:Int)≠0 by decide) hn hB);have hr:s.text t=s.put ⟨1,0,0,0,t⟩:=rfl;rw[hr];generalize s.put ⟨1,0,0,0,t⟩=r at*
 clear hr h;go_enter Tryz.func35,Tryz.ntmps35
 go_wp2_with fail
 refine HP.out.mono ?_;rintro e w1 ⟨rfl,hs,hk⟩
 go_wp2_with fail
 go_ret;exact⟨rfl,hs,hk⟩
theorem A3w(w:World)(B g:Nat)(s:LW)(t:List UInt8)(arr:Bool)(h:LoS w B g s)(ht:t.length<=65536)(hn:s.l.length<=1000000000100)(hB:B<=w.heap.size):
  Calls Tryz.prog 32 #[.pointer (some ⟨g,0,none⟩),.string ⟨t.toArray⟩,.bool arr] w (B1y (.int .i64 ((s.cls t arr).2:Nat)) B g (s.cls t arr).1 w):=by
 have hvw:VW w:=by obtain⟨a,cap,b,h⟩:=h;exact h.vw
 have HN:=hzz (fun W ok (hb:Below w.heap.size w W)=>A0v W B g s ok 8 (h.below hb));have HI:=hzz (fun W (hb:Below w.heap.size w W)=>A6w W t (by omega) (hvw.below hb))
 have HA:=hzz (fun W (hb:Below w.heap.size w W)=>A8f W t ht (hvw.below hb));have HB0:=hzz (Below.refl w.heap.size w);have HTL:=hzz ht;unfold LW.cls
 obtain⟨R,hR⟩:∃R,R=(A1b t||(arr&&A2g t)):=⟨_,rfl⟩;rw[<-hR];have HR:=hR;clear hR;generalize A1b t=x1 at*;generalize A2g t=x2 at*;clear h hvw ht
 cases x1
 ·cases arr
  ·have hR:R=false:=HR;subst hR;clear HR;go_enter Tryz.func32,Tryz.ntmps32
   go_wp2_with fail
   refine(HI.out w HB0.out).mono ?_;rintro e w2 ⟨rfl,hb2⟩;have HB2:=hzz hb2;clear hb2
   go_wp2_with fail
   refine(HN.out w2 false HB2.out).mono ?_;rintro e w5 ⟨rfl,hs5,hk5⟩
   have HT:=hzz (A2i w5 B g (s.need false 8) t hs5 HTL.out (show s.l.length<=_ by omega) (Nat.le_trans hB (Nat.le_trans HB2.out.size hk5.size)));have HK5:=hzz ((A0u.of HB2.out).trans hk5)
   have hl6:((s.need false 8).text t).1.l.length<=s.l.length+2:=A1x (s.need false 8) t;have hi6:((s.need false 8).text t).2<=s.l.length:=B2p (s.need false 8) _
   generalize(s.need false 8).text t=T at*;obtain⟨s6,i6⟩:=T;dsimp only at hl6 hi6;have HL6:=hzz hl6;clear hs5 hk5 hl6
   go_wp2_with fail
   refine HT.out.mono ?_;rintro e w6 ⟨rfl,hs6,hk6⟩
   have HP:=hzz (A3u w6 B g s6 ⟨7,(i6:Nat),0,0,[]⟩ hs6 (A7f (by omega) (by omega) (by omega) (A1j (by omega))) (show(7:Int)≠0 by decide) (by have:=HL6.out;omega) ((HK5.out.trans hk6).bnd hB))
   have HK6:=hzz (HK5.out.trans hk6);clear hs6 hk6 HT HL6 HK5;dsimp only[KV.cells]at HP;generalize s6.put ⟨7,(i6:Nat),0,0,[]⟩=Q at*
   go_wp2_with fail
   refine HP.out.mono ?_;rintro e w7 ⟨rfl,hs7,hk7⟩
   go_wp2_with fail
   go_ret;exact⟨rfl,hs7,HK6.out.trans hk7⟩
  have hR:R=x2:=HR;subst hR;clear HR;go_enter Tryz.func32,Tryz.ntmps32
  go_wp2_with fail
  refine(HI.out w HB0.out).mono ?_;rintro e w2 ⟨rfl,hb2⟩;have HB2:=hzz hb2;clear hb2
  go_wp2_with fail
  refine(HA.out w2 HB2.out).mono ?_;rintro e w3 ⟨rfl,hb3⟩;have HB3:=btz HB2 hb3;clear hb3
  go_wp2_with fail
  refine(HN.out w3 R HB3.out).mono ?_;rintro e w5 ⟨rfl,hs5,hk5⟩
  have HT:=hzz (A2i w5 B g (s.need R 8) t hs5 HTL.out (show s.l.length<=_ by omega) (Nat.le_trans hB (Nat.le_trans HB3.out.size hk5.size)));have HK5:=hzz ((A0u.of HB3.out).trans hk5)
  have hl6:((s.need R 8).text t).1.l.length<=s.l.length+2:=A1x (s.need R 8) t;have hi6:((s.need R 8).text t).2<=s.l.length:=B2p (s.need R 8) _;generalize(s.need R 8).text t=T at*
  obtain⟨s6,i6⟩:=T;dsimp only at hl6 hi6;have HL6:=hzz hl6;clear hs5 hk5 hl6
  go_wp2_with fail
  refine HT.out.mono ?_;rintro e w6 ⟨rfl,hs6,hk6⟩
  have HP:=hzz (A3u w6 B g s6 ⟨7,(i6:Nat),0,0,[]⟩ hs6 (A7f (by omega) (by omega) (by omega) (A1j (by omega))) (show(7:Int)≠0 by decide) (by have:=HL6.out;omega) ((HK5.out.trans hk6).bnd hB))
  have HK6:=hzz (HK5.out.trans hk6);clear hs6 hk6 HT HL6 HK5;dsimp only[KV.cells]at HP;generalize s6.put ⟨7,(i6:Nat),0,0,[]⟩=Q at*
  go_wp2_with fail
  refine HP.out.mono ?_;rintro e w7 ⟨rfl,hs7,hk7⟩
  go_wp2_with fail
  go_ret;exact⟨rfl,hs7,HK6.out.trans hk7⟩
 have hR:R=true:=HR;subst hR;clear HR;go_enter Tryz.func32,Tryz.ntmps32
 go_wp2_with fail
 refine(HI.out w HB0.out).mono ?_;rintro e w2 ⟨rfl,hb2⟩;have HB2:=hzz hb2;clear hb2
 go_wp2_with fail
 refine(HN.out w2 true HB2.out).mono ?_;rintro e w5 ⟨rfl,hs5,hk5⟩
 have HT:=hzz (A2i w5 B g (s.need true 8) t hs5 HTL.out (show s.l.length<=_ by omega) (Nat.le_trans hB (Nat.le_trans HB2.out.size hk5.size)));have HK5:=hzz ((A0u.of HB2.out).trans hk5)
 have hl6:((s.need true 8).text t).1.l.length<=s.l.length+2:=A1x (s.need true 8) t;have hi6:((s.need true 8).text t).2<=s.l.length:=B2p (s.need true 8) _;generalize(s.need true 8).text t=T at*
 obtain⟨s6,i6⟩:=T;dsimp only at hl6 hi6;have HL6:=hzz hl6;clear hs5 hk5 hl6
 go_wp2_with fail
 refine HT.out.mono ?_;rintro e w6 ⟨rfl,hs6,hk6⟩
 have HP:=hzz (A3u w6 B g s6 ⟨7,(i6:Nat),0,0,[]⟩ hs6 (A7f (by omega) (by omega) (by omega) (A1j (by omega))) (show(7:Int)≠0 by decide) (by have:=HL6.out;omega) ((HK5.out.trans hk6).bnd hB))
 have HK6:=hzz (HK5.out.trans hk6);clear hs6 hk6 HT HL6 HK5;dsimp only[KV.cells]at HP;generalize s6.put ⟨7,(i6:Nat),0,0,[]⟩=Q at*
 go_wp2_with fail
 refine HP.out.mono ?_;rintro e w7 ⟨rfl,hs7,hk7⟩
 go_wp2_with fail
 go_ret;exact⟨rfl,hs7,HK6.out.trans hk7⟩
theorem C1t:Tryz.prog.underlying A2e=some (.struct (Tryz.prog.fieldsOf A2e)):=by kernel_rfl
theorem D0b:Tryz.prog.stoodInHeld A2e=false:=by kernel_rfl
theorem B2e:Tryz.prog.eqGuardType Tryz.prog.depth A2e=false:=by kernel_rfl
theorem D0f:(Tryz.prog.fieldsOf A2e).toList.map (fun f=>(f.name,f.type,f.offset))=[("Op",5,0),("N",2,1),("M",3,2),("Class",9,3),("Name",9,4),("Desc",9,5),("Text",9,6)]:=by kernel_rfl
def A9z(x y:IN):Bool:=decide (x.op=y.op/\x.n=y.n/\x.m=y.m/\x.cl=y.cl/\x.nm=y.nm/\x.ds=y.ds/\x.tx=y.tx)
theorem B2h(w:World)(d:Nat)(x y:IN):(Op.equalIn (d+1+1) A2e (.agg x.cells.toArray) (.agg y.cells.toArray)).run Tryz.prog w= .ok (A9z x y) w:=by
 unfold IN.cells;rw[run_equalIn_struct w (d+1) _ _ _ C1t D0b];have hl:=D0f
 match hf:(Tryz.prog.fieldsOf A2e).toList,hl with
 |[f0,f1,f2,f3,f4,f5,f6],hl=>
  simp only[List.map_cons,List.map_nil,List.cons.injEq,Prod.mk.injEq,and_true]at hl;obtain⟨⟨n0,t0,o0⟩,⟨n1,t1,o1⟩,⟨n2,t2,o2⟩,⟨n3,t3,o3⟩,⟨n4,t4,o4⟩,⟨n5,t5,o5⟩,⟨n6,t6,o6⟩⟩:=hl
  simp only[Op.eqFields,n0,n1,n2,n3,n4,n5,n6,t0,t1,t2,t3,t4,t5,t6,o0,o1,o2,o3,o4,o5,o6]
  have b:∀(e:Value) (i:Nat) (t:TypeId) (d':TypeDesc) (cs:Array Value) (w:World),Tryz.prog.underlying t=some d'->(match d' with| .struct _| .array _ _=>false|_=>true)=true->cs[i]? =some e->(part t cs i).run Tryz.prog w= .ok e w:=by
   intro e i t d' cs w h1 h2 h3
   cases d'<;>simp[part,isAgg,run_underlying h1,h3]at h2⊢
  have i0:∀(i:Nat) (cs:Array Value) (w:World) (h:i<cs.size),(part 3 cs i).run Tryz.prog w= .ok cs[i] w:=fun i cs w h=>b _ i _ _ cs w Tryz.underlying3 rfl (Array.getElem?_eq_getElem h)
  have i1:∀(i:Nat) (cs:Array Value) (w:World) (h:i<cs.size),(part 5 cs i).run Tryz.prog w= .ok cs[i] w:=fun i cs w h=>b _ i _ _ cs w Tryz.underlying5 rfl (Array.getElem?_eq_getElem h)
  have i3:∀(i:Nat) (cs:Array Value) (w:World) (h:i<cs.size),(part 2 cs i).run Tryz.prog w= .ok cs[i] w:=fun i cs w h=>b _ i _ _ cs w Tryz.underlying2 rfl (Array.getElem?_eq_getElem h)
  have i4:∀(i:Nat) (cs:Array Value) (w:World) (h:i<cs.size),(part 9 cs i).run Tryz.prog w= .ok cs[i] w:=fun i cs w h=>b _ i _ _ cs w Tryz.underlying9 rfl (Array.getElem?_eq_getElem h)
  by_cases g0:x.op=y.op
  ·by_cases g1:x.n=y.n
   ·by_cases g2:x.m=y.m
    ·by_cases g3:x.cl=y.cl
     ·by_cases g4:x.nm=y.nm
      ·by_cases g5:x.ds=y.ds
       ·by_cases g6:x.tx=y.tx<;>simp[i0,i1,i3,i4,run_equalIn_int _ _ _ _ _ _ _ Tryz.underlying3,run_equalIn_int _ _ _ _ _ _ _ Tryz.underlying2,run_equalIn_int _ _ _ _ _ _ _ Tryz.underlying5,run_equalIn_string _ _ _ _ _ Tryz.underlying9,g0,g1,g2,g3,g4,g5,g6,A9z,A5y]
       simp[i0,i1,i3,i4,run_equalIn_int _ _ _ _ _ _ _ Tryz.underlying3,run_equalIn_int _ _ _ _ _ _ _ Tryz.underlying2,run_equalIn_int _ _ _ _ _ _ _ Tryz.underlying5,run_equalIn_string _ _ _ _ _ Tryz.underlying9,g0,g1,g2,g3,g4,g5,A9z,A5y]
      simp[i0,i1,i3,i4,run_equalIn_int _ _ _ _ _ _ _ Tryz.underlying3,run_equalIn_int _ _ _ _ _ _ _ Tryz.underlying2,run_equalIn_int _ _ _ _ _ _ _ Tryz.underlying5,run_equalIn_string _ _ _ _ _ Tryz.underlying9,g0,g1,g2,g3,g4,A9z,A5y]
     simp[i0,i1,i3,i4,run_equalIn_int _ _ _ _ _ _ _ Tryz.underlying3,run_equalIn_int _ _ _ _ _ _ _ Tryz.underlying2,run_equalIn_int _ _ _ _ _ _ _ Tryz.underlying5,run_equalIn_string _ _ _ _ _ Tryz.underlying9,g0,g1,g2,g3,A9z,A5y]
    simp[i0,i1,i3,run_equalIn_int _ _ _ _ _ _ _ Tryz.underlying3,run_equalIn_int _ _ _ _ _ _ _ Tryz.underlying2,run_equalIn_int _ _ _ _ _ _ _ Tryz.underlying5,g0,g1,g2,A9z]
   simp[i1,i3,run_equalIn_int _ _ _ _ _ _ _ Tryz.underlying2,run_equalIn_int _ _ _ _ _ _ _ Tryz.underlying5,g0,g1,A9z]
  have g0':¬(x.op:Int)=(y.op:Int):=by omega
  simp[i1,run_equalIn_int _ _ _ _ _ _ _ Tryz.underlying5,g0,g0',A9z]
 |[],hl|[_],hl|[_,_],hl|[_,_,_],hl|[_,_,_,_],hl|[_,_,_,_,_],hl|[_,_,_,_,_,_],hl|_::_::_::_::_::_::_::_::_,hl=>simp at hl
theorem C5f(w:World)(x:IN)(hop:x.op<256):Calls Tryz.prog 120 #[.agg x.cells.toArray] w fun e w'=>e= .returned (.bool (A8v x))/\Below w.heap.size w w':=by
 have HF:=hzz (fun w=>B1b w x.op hop);obtain⟨f,hf⟩:=exz (A0g x.op);rw[<-hf]at HF;obtain⟨R,hR⟩:=exz (A8v x);rw[<-hR];unfold A8v at hR;rw[<-hf]at hR;have HR:=hzz hR
 have HEQ:=fun W (y:IN)=>B2h W 9998 x y
 clear hf hR hop;obtain⟨op,n,m,cl,nm,ds,tx⟩:=x;dsimp only[IN.cells]at HR HEQ HF⊢;have hgd:=B2e;go_enter Tryz.func120,Tryz.ntmps120
 go_wp2_with fail
 refine(HF.out _).mono ?_;rintro e w1 ⟨rfl,hb1⟩
 have hxa:((w.alloc (.cells #[.int .u8 (op:Nat),.int .i64 n,.int .i64 m,.string ⟨cl.toArray⟩,.string ⟨nm.toArray⟩,.string ⟨ds.toArray⟩,.string ⟨tx.toArray⟩] A2e)).alloc (.cells #[.int .u8 (op:Nat),.int .i64 n,.int .i64 0,.string ⟨#[]⟩,.string ⟨#[]⟩,.string ⟨#[]⟩,.string ⟨#[]⟩] A2e)).heap[w.heap.size]? =some (.cells #[.int .u8 (op:Nat),.int .i64 n,.int .i64 m,.string ⟨cl.toArray⟩,.string ⟨nm.toArray⟩,.string ⟨ds.toArray⟩,.string ⟨tx.toArray⟩] A2e (0,0)):=by
  rw[Below.heap_alloc _ _ _ (by simp)];exact heap_alloc_last w _
 have hya:=heap_alloc_last (w.alloc (.cells #[.int .u8 (op:Nat),.int .i64 n,.int .i64 m,.string ⟨cl.toArray⟩,.string ⟨nm.toArray⟩,.string ⟨ds.toArray⟩,.string ⟨tx.toArray⟩] A2e)) (.cells #[.int .u8 (op:Nat),.int .i64 n,.int .i64 0,.string ⟨#[]⟩,.string ⟨#[]⟩,.string ⟨#[]⟩,.string ⟨#[]⟩] A2e)
 have hsz:(w.alloc (.cells #[.int .u8 (op:Nat),.int .i64 n,.int .i64 m,.string ⟨cl.toArray⟩,.string ⟨nm.toArray⟩,.string ⟨ds.toArray⟩,.string ⟨tx.toArray⟩] A2e)).heap.size=w.heap.size+1:=by simp
 rw[hsz]at hya;have HB1:=hzz ((((Below.refl w.heap.size w).alloc nlz _).alloc (by simp) _).trans (hb1.mono (by simp;omega)))
 have HXB:=hzz (show A3j w.heap.size ⟨op,n,m,cl,nm,ds,tx⟩ w1 from A0e hxa hb1);have HYB:=hzz (show A3j (w.heap.size+1) ⟨op,n,0,[],[],[],[]⟩ w1 from A0e hya hb1);clear hxa hya hb1 hsz
 obtain⟨i0,i1,i2,i3,i4,i5,i6,-,-,-,-,-,-⟩:=HXB.out.box;obtain⟨j0,j1,j2,j3,j4,j5,j6,f1,f2,f3,f4,f5,f6⟩:=HYB.out.box;dsimp only at i0 i1 i2 i3 i4 i5 i6 j0 j1 j2 j3 j4 j5 j6
 by_cases f8:f=8
 ·have e8:((f:Int)==8)=true:=by subst f8;rfl
  have he:∀W,(Op.equalIn 10000 A2e (.agg #[.int .u8 (op:Nat),.int .i64 n,.int .i64 m,.string ⟨cl.toArray⟩,.string ⟨nm.toArray⟩,.string ⟨ds.toArray⟩,.string ⟨tx.toArray⟩]) (.agg #[.int .u8 (op:Nat),.int .i64 n,.int .i64 m,.string ⟨#[]⟩,.string ⟨#[]⟩,.string ⟨#[]⟩,.string ⟨#[]⟩])).run Tryz.prog W= .ok R W:=fun W=>by
   have h:=HEQ W ⟨op,n,m,[],[],[],[]⟩;rw[show A9z ⟨op,n,m,cl,nm,ds,tx⟩ ⟨op,n,m,[],[],[],[]⟩=R by rw[HR.out];unfold A9z;simp[f8]]at h;exact h
  clear HEQ f8
  go_wp2_with fail
  go_ret;exact⟨rfl,HB1.out.setCell (show w.heap.size<=w.heap.size+1 by omega) _⟩
 have e8:((f:Int)==8)=false:=by rw[beq_eq_false_iff_ne];omega
 have he:∀W,(Op.equalIn 10000 A2e (.agg #[.int .u8 (op:Nat),.int .i64 n,.int .i64 m,.string ⟨cl.toArray⟩,.string ⟨nm.toArray⟩,.string ⟨ds.toArray⟩,.string ⟨tx.toArray⟩]) (.agg #[.int .u8 (op:Nat),.int .i64 n,.int .i64 0,.string ⟨#[]⟩,.string ⟨#[]⟩,.string ⟨#[]⟩,.string ⟨#[]⟩])).run Tryz.prog W= .ok R W:=fun W=>by
  have h:=HEQ W ⟨op,n,0,[],[],[],[]⟩;rw[show A9z ⟨op,n,m,cl,nm,ds,tx⟩ ⟨op,n,0,[],[],[],[]⟩=R by rw[HR.out];unfold A9z;simp[f8]]at h;exact h
 clear HEQ f8
 go_wp2_with fail
 go_ret;exact⟨rfl,HB1.out⟩
theorem B5z(n:Int):IntKind.i32.wrap n=A2y n:=by
 unfold A2y IntKind.wrap;simp[IntKind.bits,IntKind.signed];omega
theorem C0y(w:World)(B g:Nat)(s:LW)(n:Int)(h:LoS w B g s):Calls Tryz.prog 121 #[.pointer (some ⟨g,0,none⟩),.int .i64 n] w (B1y (.int .i64 (A2y n)) B g (s.need (A4d n) 8) w):=by
 have HN:=hzz (fun ok=>A0v w B g s ok 8 h);obtain⟨R,hR⟩:=exz (A4d n);rw[<-hR];unfold A4d at hR;obtain⟨q,hq⟩:=exz (A2y n);rw[<-hq]
 have hw:IntKind.i32.wrap n=q:=by rw[hq];exact B5z n
 have hqb: -2147483648<=q/\q<=2147483647:=by rw[hq];unfold A2y;omega
 obtain⟨q0,q1⟩:=hqb;have hw2:IntKind.i64.wrap q=q:=by rw[IntKind.wrap_i64];omega
 clear h hq;by_cases h1: -2147483648<=n
 ·have d1:decide (-2147483648<=n)=true:=decide_eq_true h1;by_cases h2:n<2147483648
  ·have d2:decide (n<2147483648)=true:=decide_eq_true h2;have hRR:R=true:=by rw[hR];exact decide_eq_true (by omega)
   subst hRR;clear hR;go_enter Tryz.func121,Tryz.ntmps121
   go_wp2_with fail
   refine(HN.out true).mono ?_;rintro e w1 ⟨rfl,hs,hk⟩
   go_wp2_with fail
   go_ret;exact⟨rfl,hs,hk⟩
  have d2:decide (n<2147483648)=false:=decide_eq_false h2;have hRR:R=false:=by rw[hR];exact decide_eq_false (by omega)
  subst hRR;clear hR;go_enter Tryz.func121,Tryz.ntmps121
  go_wp2_with fail
  refine(HN.out false).mono ?_;rintro e w1 ⟨rfl,hs,hk⟩
  go_wp2_with fail
  go_ret;exact⟨rfl,hs,hk⟩
 have d1:decide (-2147483648<=n)=false:=decide_eq_false h1;have hRR:R=false:=by rw[hR];exact decide_eq_false (by omega)
 subst hRR;clear hR;go_enter Tryz.func121,Tryz.ntmps121
 go_wp2_with fail
 refine(HN.out false).mono ?_;rintro e w1 ⟨rfl,hs,hk⟩
 go_wp2_with fail
 go_ret;exact⟨rfl,hs,hk⟩
theorem A3j.keepL{B g:Nat}{x:IN}{w w':World}(h:A3j g x w)(hk:A0u B w w'):A3j g x w':=hk.row h (by decide) (by decide)
structure B2w(x:IN):Prop where
 op:x.op<256
 n:A4b x.n
 m:A4b x.m
 cl:x.cl.length<=65536
 nm:x.nm.length<=65536
 ds:x.ds.length<=65536
 tx:x.tx.length<=65536
theorem A4q(w:World)(B g:Nat)(s:LW)(x:IN)(tag:Int)(fis:Nat)(p:List UInt8->Bool)
  (hen:∀(args:Array Value) (W:World),(callFunc fis args).run Tryz.prog W= .ok (.enter fis args) W)
  (hp:∀(W:World) (s:List UInt8),s.length<=65536->VW W->Calls Tryz.prog fis #[.string ⟨s.toArray⟩] W fun e w'=>e= .returned (.bool (p s))/\Below W.heap.size W w')
  (h:LoS w B g s) (hf:B2w x) (hn:s.l.length<=1000000000050) (hB:B<=w.heap.size) (htag:0<tag/\tag<=65536):
  Calls Tryz.prog 155 #[.pointer (some ⟨g,0,none⟩),.agg x.cells.toArray,.int .i64 tag,.func (.func fis) #[] #[]] w (B1y (.int .i64 ((s.member x tag p).2:Nat)) B g (s.member x tag p).1 w):=by
 have hvw:VW w:=by obtain⟨a,cap,b,h⟩:=h;exact h.vw
 have HF:=hzz hf;have hb1:Below w.heap.size w (w.alloc (.cells x.cells.toArray A2e)):=A0f _ _;have HS1:=hzz (h.below hb1)
 have HK0:=hzz (A0u.of hb1:A0u B w (w.alloc (.cells x.cells.toArray A2e)));have HXB:=hzz (show A3j w.heap.size x (w.alloc (.cells x.cells.toArray A2e))from heap_alloc_last w _)
 have HV1:=hzz (hvw.below hb1);have hB1:B<=(w.alloc (.cells x.cells.toArray A2e)).heap.size:=HK0.out.bnd hB;unfold LW.member;dsimp only;obtain⟨R,hR⟩:=exz (A5e x.nm&&p x.ds);rw[<-hR];have HR:=hR
 clear hR h hf hvw hb1;have HI1:=hzz (fun W (hv:VW W)=>A4s W x.nm HF.out.nm hv);have HI2:=hzz (fun W (hv:VW W)=>hp W x.ds HF.out.ds hv);generalize A5e x.nm=x1 at*;generalize p x.ds=x2 at*
 clear hp;obtain⟨op,n,m,cl,nm,ds,tx⟩:=x;obtain⟨t0,t1⟩:=htag;dsimp only[IN.cells]at HS1 HK0 HXB HV1 hB1 HI1 HI2 HF⊢;go_enter Tryz.func155,Tryz.ntmps155
 go_upto_region 1 with fail
 generalize w.alloc _=W at*;obtain⟨j0,j1,j2,j3,j4,j5,j6,-,-,-,-,-,-⟩:=HXB.out.box;dsimp only at j0 j1 j2 j3 j4 j5 j6
 have HN:=hzz (fun W2 ok (hb:Below W.heap.size W W2)=>A0v W2 B g s ok 8 (HS1.out.below hb))
 go_wp2_with fail
 refine(HI1.out W HV1.out).mono ?_;rintro e w2 ⟨rfl,hb2⟩;have HB2:=hzz hb2;clear hb2 j0 j1 j2 j3 j4 j5 j6
 cases x1
 ·have hR:R=false:=HR;subst hR;clear HR
  go_wp2_with fail
  refine(HN.out w2 false HB2.out).mono ?_;rintro e w3 ⟨rfl,hs3,hk3⟩;have HK3:=hzz ((A0u.of HB2.out).trans hk3);have HX3:=hzz ((HXB.out.below HB2.out).keepL hk3)
  have HC:=hzz (A3w w3 B g _ cl false hs3 HF.out.cl (show s.l.length<=_ by omega) (HK3.out.bnd hB1))
  have hl4:((s.need false 8).cls cl false).1.l.length<=s.l.length+4:=A7h (s.need false 8) cl false;have hi4:((s.need false 8).cls cl false).2<((s.need false 8).cls cl false).1.l.length:=A5x _ _
  generalize(s.need false 8).cls cl false=C4 at*;obtain⟨s4,i4⟩:=C4;dsimp only at hl4 hi4 HC⊢;obtain⟨j0,j1,j2,j3,j4,j5,j6,-,-,-,-,-,-⟩:=HX3.out.box;dsimp only at j0 j1 j2 j3 j4 j5 j6
  clear hs3 hk3
  go_wp2_with fail
  refine HC.out.mono ?_;rintro e w4 ⟨rfl,hs4,hk4⟩;have HK4:=hzz (HK3.out.trans hk4);have HX4:=hzz (HX3.out.keepL hk4);have HTN:=hzz (A2i w4 B g s4 nm hs4 HF.out.nm (by omega) (HK4.out.bnd hB1))
  have hl5:(s4.text nm).1.l.length<=s4.l.length+2:=A1x _ _;have hi5:(s4.text nm).2<(s4.text nm).1.l.length:=A5x _ _;generalize s4.text nm=C5 at*;obtain⟨s5,i5⟩:=C5
  dsimp only at hl5 hi5 HTN⊢;clear hs4 hk4 HC HK3 HX3 j0 j1 j2 j3 j4 j5 j6;obtain⟨j0,j1,j2,j3,j4,j5,j6,-,-,-,-,-,-⟩:=HX4.out.box;dsimp only at j0 j1 j2 j3 j4 j5 j6
  go_wp2_with fail
  refine HTN.out.mono ?_;rintro e w5 ⟨rfl,hs5,hk5⟩;have HK5:=hzz (HK4.out.trans hk5);have HX5:=hzz (HX4.out.keepL hk5);have HTD:=hzz (A2i w5 B g s5 ds hs5 HF.out.ds (by omega) (HK5.out.bnd hB1))
  have hl6:(s5.text ds).1.l.length<=s5.l.length+2:=A1x _ _;have hi6:(s5.text ds).2<(s5.text ds).1.l.length:=A5x _ _;generalize s5.text ds=C6 at*;obtain⟨s6,i6⟩:=C6
  dsimp only at hl6 hi6 HTD⊢;clear hs5 hk5 HTN HK4 HX4 j0 j1 j2 j3 j4 j5 j6;obtain⟨j0,j1,j2,j3,j4,j5,j6,-,-,-,-,-,-⟩:=HX5.out.box;dsimp only at j0 j1 j2 j3 j4 j5 j6
  go_wp2_with fail
  refine HTD.out.mono ?_;rintro e w6 ⟨rfl,hs6,hk6⟩;have HK6:=hzz (HK5.out.trans hk6)
  have HP:=hzz (A3u w6 B g s6 ⟨12,(i5:Nat),(i6:Nat),0,[]⟩ hs6 (A7f (by omega) (by omega) (by omega) (A1j (by omega))) (show(12:Int)≠0 by decide) (by omega) (HK6.out.bnd hB1))
  have hl7:(s6.put ⟨12,(i5:Nat),(i6:Nat),0,[]⟩).1.l.length<=s6.l.length+2:=A8m _ _
  have hi7:(s6.put ⟨12,(i5:Nat),(i6:Nat),0,[]⟩).2<(s6.put ⟨12,(i5:Nat),(i6:Nat),0,[]⟩).1.l.length:=A5x _ _;generalize s6.put ⟨12,(i5:Nat),(i6:Nat),0,[]⟩=C7 at*
  obtain⟨s7,i7⟩:=C7;dsimp only[KV.cells]at hl7 hi7 HP⊢;clear hs6 hk6 HTD HK5 HX5 j0 j1 j2 j3 j4 j5 j6
  go_wp2_with fail
  refine HP.out.mono ?_;rintro e w7 ⟨rfl,hs7,hk7⟩;have HK7:=hzz (HK6.out.trans hk7)
  have HQ:=hzz (A3u w7 B g s7 ⟨tag,(i4:Nat),(i7:Nat),0,[]⟩ hs7 (A7f (by omega) (by omega) (by omega) (A1j (by omega))) (show tag≠0 by omega) (by omega) (HK7.out.bnd hB1))
  generalize s7.put ⟨tag,(i4:Nat),(i7:Nat),0,[]⟩=C8 at*;obtain⟨s8,i8⟩:=C8;dsimp only[KV.cells]at HQ⊢;clear hs7 hk7 HP HK6
  go_wp2_with fail
  refine HQ.out.mono ?_;rintro e w8 ⟨rfl,hs8,hk8⟩
  go_wp2_with fail
  go_ret;exact⟨rfl,hs8,HK0.out.trans (HK7.out.trans hk8)⟩
 have hR:R=x2:=HR;subst hR;clear HR;obtain⟨j0,j1,j2,j3,j4,j5,j6,-,-,-,-,-,-⟩:=(HXB.out.below HB2.out).box;dsimp only at j0 j1 j2 j3 j4 j5 j6
 go_wp2_with fail
 refine(HI2.out w2 (HV1.out.below HB2.out)).mono ?_;rintro e w9 ⟨rfl,hb3⟩;have HB3:=btz HB2 hb3;clear hb3 j0 j1 j2 j3 j4 j5 j6
 go_wp2_with fail
 refine(HN.out w9 R HB3.out).mono ?_;rintro e w3 ⟨rfl,hs3,hk3⟩;have HK3:=hzz ((A0u.of HB3.out).trans hk3);have HX3:=hzz ((HXB.out.below HB3.out).keepL hk3)
 have HC:=hzz (A3w w3 B g _ cl false hs3 HF.out.cl (show s.l.length<=_ by omega) (HK3.out.bnd hB1));have hl4:((s.need R 8).cls cl false).1.l.length<=s.l.length+4:=A7h (s.need R 8) cl false
 have hi4:((s.need R 8).cls cl false).2<((s.need R 8).cls cl false).1.l.length:=A5x _ _;generalize(s.need R 8).cls cl false=C4 at*;obtain⟨s4,i4⟩:=C4;dsimp only at hl4 hi4 HC⊢
 obtain⟨j0,j1,j2,j3,j4,j5,j6,-,-,-,-,-,-⟩:=HX3.out.box;dsimp only at j0 j1 j2 j3 j4 j5 j6;clear hs3 hk3
 go_wp2_with fail
 refine HC.out.mono ?_;rintro e w4 ⟨rfl,hs4,hk4⟩;have HK4:=hzz (HK3.out.trans hk4);have HX4:=hzz (HX3.out.keepL hk4);have HTN:=hzz (A2i w4 B g s4 nm hs4 HF.out.nm (by omega) (HK4.out.bnd hB1))
 have hl5:(s4.text nm).1.l.length<=s4.l.length+2:=A1x _ _;have hi5:(s4.text nm).2<(s4.text nm).1.l.length:=A5x _ _;generalize s4.text nm=C5 at*;obtain⟨s5,i5⟩:=C5
 dsimp only at hl5 hi5 HTN⊢;clear hs4 hk4 HC HK3 HX3 j0 j1 j2 j3 j4 j5 j6;obtain⟨j0,j1,j2,j3,j4,j5,j6,-,-,-,-,-,-⟩:=HX4.out.box;dsimp only at j0 j1 j2 j3 j4 j5 j6
 go_wp2_with fail
 refine HTN.out.mono ?_;rintro e w5 ⟨rfl,hs5,hk5⟩;have HK5:=hzz (HK4.out.trans hk5);have HX5:=hzz (HX4.out.keepL hk5);have HTD:=hzz (A2i w5 B g s5 ds hs5 HF.out.ds (by omega) (HK5.out.bnd hB1))
 have hl6:(s5.text ds).1.l.length<=s5.l.length+2:=A1x _ _;have hi6:(s5.text ds).2<(s5.text ds).1.l.length:=A5x _ _;generalize s5.text ds=C6 at*;obtain⟨s6,i6⟩:=C6
 dsimp only at hl6 hi6 HTD⊢;clear hs5 hk5 HTN HK4 HX4 j0 j1 j2 j3 j4 j5 j6;obtain⟨j0,j1,j2,j3,j4,j5,j6,-,-,-,-,-,-⟩:=HX5.out.box;dsimp only at j0 j1 j2 j3 j4 j5 j6
 go_wp2_with fail
 refine HTD.out.mono ?_;rintro e w6 ⟨rfl,hs6,hk6⟩;have HK6:=hzz (HK5.out.trans hk6)
 have HP:=hzz (A3u w6 B g s6 ⟨12,(i5:Nat),(i6:Nat),0,[]⟩ hs6 (A7f (by omega) (by omega) (by omega) (A1j (by omega))) (show(12:Int)≠0 by decide) (by omega) (HK6.out.bnd hB1))
 have hl7:(s6.put ⟨12,(i5:Nat),(i6:Nat),0,[]⟩).1.l.length<=s6.l.length+2:=A8m _ _
 have hi7:(s6.put ⟨12,(i5:Nat),(i6:Nat),0,[]⟩).2<(s6.put ⟨12,(i5:Nat),(i6:Nat),0,[]⟩).1.l.length:=A5x _ _;generalize s6.put ⟨12,(i5:Nat),(i6:Nat),0,[]⟩=C7 at*;obtain⟨s7,i7⟩:=C7
 dsimp only[KV.cells]at hl7 hi7 HP⊢;clear hs6 hk6 HTD HK5 HX5 j0 j1 j2 j3 j4 j5 j6
 go_wp2_with fail
 refine HP.out.mono ?_;rintro e w7 ⟨rfl,hs7,hk7⟩;have HK7:=hzz (HK6.out.trans hk7)
 have HQ:=hzz (A3u w7 B g s7 ⟨tag,(i4:Nat),(i7:Nat),0,[]⟩ hs7 (A7f (by omega) (by omega) (by omega) (A1j (by omega))) (show tag≠0 by omega) (by omega) (HK7.out.bnd hB1))
 generalize s7.put ⟨tag,(i4:Nat),(i7:Nat),0,[]⟩=C8 at*;obtain⟨s8,i8⟩:=C8;dsimp only[KV.cells]at HQ⊢;clear hs7 hk7 HP HK6
 go_wp2_with fail
 refine HQ.out.mono ?_;rintro e w8 ⟨rfl,hs8,hk8⟩
 go_wp2_with fail
 go_ret;exact⟨rfl,hs8,HK0.out.trans (HK7.out.trans hk8)⟩
theorem B4e(w:World)(B g:Nat)(s:LW)(x:IN)(h:LoS w B g s)(hf:B2w x)(hn:s.l.length<=1000000000050)(hB:B<=w.heap.size):
  Calls Tryz.prog 71 #[.pointer (some ⟨g,0,none⟩),.agg x.cells.toArray] w (B1y (.int .i64 ((s.con x).2:Nat)) B g (s.con x).1 w):=by
 have HF:=hzz hf;have hb1:Below w.heap.size w (w.alloc (.cells x.cells.toArray A2e)):=A0f _ _;have HS1:=hzz (h.below hb1)
 have HK0:=hzz (A0u.of hb1:A0u B w (w.alloc (.cells x.cells.toArray A2e)));have HXB:=hzz (show A3j w.heap.size x (w.alloc (.cells x.cells.toArray A2e))from heap_alloc_last w _)
 obtain⟨R,hR⟩:=exz (s.con x);rw[<-hR];have HR:=hzz hR;clear hR h hf hb1;obtain⟨op,n,m,cl,nm,ds,tx⟩:=x;dsimp only[IN.cells]at HS1 HK0 HXB HF HR⊢;by_cases h73:ds=[73]
 ·have d73:(ds==[73])=true:=by rw[h73];rfl
  have d83:(ds==[83])=false:=by rw[h73];rfl
  have d74:(ds==[74])=false:=by rw[h73];rfl
  by_cases h18:op=18
  ·have e18:((op:Int)==18)=true:=by rw[h18];rfl
   by_cases htx:tx=[]
   ·have t1:(tx==[])=true:=by rw[htx];rfl
    have t2:tx.isEmpty=true:=by rw[htx];rfl
    have HRR:=hzz (show R=(s.need (A4d n) 8).put ⟨3,0,0,n,[]⟩ by rw[HR.out];unfold LW.con;rw[if_pos ⟨h73,h18,htx⟩]);clear HR h73 h18 htx;go_enter Tryz.func71,Tryz.ntmps71
    go_upto_region 1 with fail
    generalize w.alloc _=W at*;obtain⟨j0,j1,j2,j3,j4,j5,j6,-,-,-,-,-,-⟩:=HXB.out.box;dsimp only at j0 j1 j2 j3 j4 j5 j6;obtain⟨b,hb⟩:=exz (A4d n);rw[<-hb]at HRR
    obtain⟨q,hq⟩:=exz (A2y n);have hw:IntKind.i32.wrap n=q:=by rw[hq];exact B5z n
    have hqb: -2147483648<=q/\q<=2147483647:=by rw[hq];unfold A2y;omega
    have hqe:(n==q)=b:=by
     rw[hb,hq,Bool.eq_iff_iff,beq_iff_eq];unfold A4d A2y;rw[decide_eq_true_iff];omega
    obtain⟨q0,q1⟩:=hqb;have hw2:IntKind.i64.wrap q=q:=by rw[IntKind.wrap_i64];omega
    have HN:=hzz (A0v W B g s b 8 HS1.out);clear hq hb
    go_wp2_with fail
    refine HN.out.mono ?_;rintro e w3 ⟨rfl,hs3,hk3⟩;have HK3:=hzz (HK0.out.trans hk3);have HX3:=hzz (HXB.out.keepL hk3)
    have HP:=hzz (A3u w3 B g _ ⟨3,0,0,n,[]⟩ hs3 (A7f (by omega) (by omega) (by omega) HF.out.n) (show(3:Int)≠0 by decide) (show s.l.length<=_ by omega) (HK3.out.bnd hB))
    clear hs3 hk3 hw hw2 hqe j0 j1 j2 j3 j4 j5 j6;obtain⟨j0,j1,j2,j3,j4,j5,j6,-,-,-,-,-,-⟩:=HX3.out.box;dsimp only[KV.cells]at j0 j1 j2 j3 j4 j5 j6 HP
    go_wp2_with fail
    refine HP.out.mono ?_;rintro e w4 ⟨rfl,hs4,hk4⟩
    go_wp2_with fail
    go_ret;rw[HRR.out];exact⟨rfl,hs4,HK3.out.trans hk4⟩
   have t1:(tx==[])=false:=by simpa using htx
   have t2:tx.isEmpty=false:=by simpa using htx
   have HRR:=hzz (show R=(s.need false 8,0) by rw[HR.out];unfold LW.con;rw[if_neg (fun h=>htx h.2.2),if_neg (fun h=>by rw[h73]at h;simp at h),if_neg (fun h=>by rw[h73]at h;simp at h)])
   clear HR h73 h18 htx;go_enter Tryz.func71,Tryz.ntmps71
   go_upto_region 1 with fail
   generalize w.alloc _=W at*;obtain⟨j0,j1,j2,j3,j4,j5,j6,-,-,-,-,-,-⟩:=HXB.out.box;dsimp only at j0 j1 j2 j3 j4 j5 j6;have HN:=hzz (A0v W B g s false 8 HS1.out)
   go_wp2_with fail
   refine HN.out.mono ?_;rintro e w3 ⟨rfl,hs3,hk3⟩
   go_wp2_with fail
   go_ret;rw[HRR.out];exact⟨rfl,hs3,HK0.out.trans hk3⟩
  have e18:((op:Int)==18)=false:=by rw[beq_eq_false_iff_ne];omega
  have HRR:=hzz (show R=(s.need false 8,0) by rw[HR.out];unfold LW.con;rw[if_neg (fun h=>h18 h.2.1),if_neg (fun h=>by rw[h73]at h;simp at h),if_neg (fun h=>by rw[h73]at h;simp at h)])
  clear HR h73 h18;go_enter Tryz.func71,Tryz.ntmps71
  go_upto_region 1 with fail
  generalize w.alloc _=W at*;obtain⟨j0,j1,j2,j3,j4,j5,j6,-,-,-,-,-,-⟩:=HXB.out.box;dsimp only at j0 j1 j2 j3 j4 j5 j6;have HN:=hzz (A0v W B g s false 8 HS1.out)
  go_wp2_with fail
  refine HN.out.mono ?_;rintro e w3 ⟨rfl,hs3,hk3⟩
  go_wp2_with fail
  go_ret;rw[HRR.out];exact⟨rfl,hs3,HK0.out.trans hk3⟩
 by_cases h83:ds=[83]
 ·have d73:(ds==[73])=false:=by rw[h83];rfl
  have d83:(ds==[83])=true:=by rw[h83];rfl
  have d74:(ds==[74])=false:=by rw[h83];rfl
  by_cases h18:op=18
  ·have e18:((op:Int)==18)=true:=by rw[h18];rfl
   by_cases hn0:n=0
   ·have t1:(n==0)=true:=by rw[hn0];rfl
    have HRR:=hzz (show R=((s.text tx).1).put ⟨8,((s.text tx).2:Nat),0,0,[]⟩ by rw[HR.out];unfold LW.con;rw[if_neg (fun h=>by rw[h83]at h;simp at h),if_pos ⟨h83,h18,hn0⟩])
    clear HR h83 h18 hn0;go_enter Tryz.func71,Tryz.ntmps71
    go_upto_region 1 with fail
    generalize w.alloc _=W at*;obtain⟨j0,j1,j2,j3,j4,j5,j6,-,-,-,-,-,-⟩:=HXB.out.box;dsimp only at j0 j1 j2 j3 j4 j5 j6
    have HN:=hzz (A2i W B g s tx HS1.out HF.out.tx (by omega) (HK0.out.bnd hB));have hl5:(s.text tx).1.l.length<=s.l.length+2:=A1x _ _
    have hi5:(s.text tx).2<(s.text tx).1.l.length:=A5x _ _;generalize s.text tx=C5 at*;obtain⟨s5,i5⟩:=C5;dsimp only at hl5 hi5 HN HRR
    go_wp2_with fail
    refine HN.out.mono ?_;rintro e w3 ⟨rfl,hs3,hk3⟩;have HK3:=hzz (HK0.out.trans hk3)
    have HP:=hzz (A3u w3 B g _ ⟨8,(i5:Nat),0,0,[]⟩ hs3 (A7f (by omega) (by omega) (by omega) (A1j (by omega))) (show(8:Int)≠0 by decide) (by omega) (HK3.out.bnd hB))
    clear hs3 hk3 j0 j1 j2 j3 j4 j5 j6;dsimp only[KV.cells]at HP
    go_wp2_with fail
    refine HP.out.mono ?_;rintro e w4 ⟨rfl,hs4,hk4⟩
    go_wp2_with fail
    go_ret;rw[HRR.out];exact⟨rfl,hs4,HK3.out.trans hk4⟩
   have t1:(n==0)=false:=by simpa using hn0
   have HRR:=hzz (show R=(s.need false 8,0) by rw[HR.out];unfold LW.con;rw[if_neg (fun h=>by rw[h83]at h;simp at h),if_neg (fun h=>hn0 h.2.2),if_neg (fun h=>by rw[h83]at h;simp at h)])
   clear HR h83 h18 hn0;go_enter Tryz.func71,Tryz.ntmps71
   go_upto_region 1 with fail
   generalize w.alloc _=W at*;obtain⟨j0,j1,j2,j3,j4,j5,j6,-,-,-,-,-,-⟩:=HXB.out.box;dsimp only at j0 j1 j2 j3 j4 j5 j6;have HN:=hzz (A0v W B g s false 8 HS1.out)
   go_wp2_with fail
   refine HN.out.mono ?_;rintro e w3 ⟨rfl,hs3,hk3⟩
   go_wp2_with fail
   go_ret;rw[HRR.out];exact⟨rfl,hs3,HK0.out.trans hk3⟩
  have e18:((op:Int)==18)=false:=by rw[beq_eq_false_iff_ne];omega
  have HRR:=hzz (show R=(s.need false 8,0) by rw[HR.out];unfold LW.con;rw[if_neg (fun h=>by rw[h83]at h;simp at h),if_neg (fun h=>h18 h.2.1),if_neg (fun h=>by rw[h83]at h;simp at h)])
  clear HR h83 h18;go_enter Tryz.func71,Tryz.ntmps71
  go_upto_region 1 with fail
  generalize w.alloc _=W at*;obtain⟨j0,j1,j2,j3,j4,j5,j6,-,-,-,-,-,-⟩:=HXB.out.box;dsimp only at j0 j1 j2 j3 j4 j5 j6;have HN:=hzz (A0v W B g s false 8 HS1.out)
  go_wp2_with fail
  refine HN.out.mono ?_;rintro e w3 ⟨rfl,hs3,hk3⟩
  go_wp2_with fail
  go_ret;rw[HRR.out];exact⟨rfl,hs3,HK0.out.trans hk3⟩
 by_cases h74:ds=[74]
 ·have d73:(ds==[73])=false:=by rw[h74];rfl
  have d83:(ds==[83])=false:=by rw[h74];rfl
  have d74:(ds==[74])=true:=by rw[h74];rfl
  by_cases h20:op=20
  ·have e20:((op:Int)==20)=true:=by rw[h20];rfl
   by_cases htx:tx=[]
   ·have t1:(tx==[])=true:=by rw[htx];rfl
    have t2:tx.isEmpty=true:=by rw[htx];rfl
    have HRR:=hzz (show R=s.put ⟨5,0,0,n,[]⟩ by rw[HR.out];unfold LW.con;rw[if_neg (fun h=>by rw[h74]at h;simp at h),if_neg (fun h=>by rw[h74]at h;simp at h),if_pos ⟨h74,h20,htx⟩])
    clear HR h74 h20 htx;go_enter Tryz.func71,Tryz.ntmps71
    go_upto_region 1 with fail
    generalize w.alloc _=W at*;obtain⟨j0,j1,j2,j3,j4,j5,j6,-,-,-,-,-,-⟩:=HXB.out.box;dsimp only at j0 j1 j2 j3 j4 j5 j6
    have HP:=hzz (A3u W B g s ⟨5,0,0,n,[]⟩ HS1.out (A7f (by omega) (by omega) (by omega) HF.out.n) (show(5:Int)≠0 by decide) (by omega) (HK0.out.bnd hB));dsimp only[KV.cells]at HP
    go_wp2_with fail
    refine HP.out.mono ?_;rintro e w4 ⟨rfl,hs4,hk4⟩
    go_wp2_with fail
    go_ret;rw[HRR.out];exact⟨rfl,hs4,HK0.out.trans hk4⟩
   have t1:(tx==[])=false:=by simpa using htx
   have t2:tx.isEmpty=false:=by simpa using htx
   have HRR:=hzz (show R=(s.need false 8,0) by rw[HR.out];unfold LW.con;rw[if_neg (fun h=>by rw[h74]at h;simp at h),if_neg (fun h=>by rw[h74]at h;simp at h),if_neg (fun h=>htx h.2.2)])
   clear HR h74 h20 htx;go_enter Tryz.func71,Tryz.ntmps71
   go_upto_region 1 with fail
   generalize w.alloc _=W at*;obtain⟨j0,j1,j2,j3,j4,j5,j6,-,-,-,-,-,-⟩:=HXB.out.box;dsimp only at j0 j1 j2 j3 j4 j5 j6;have HN:=hzz (A0v W B g s false 8 HS1.out)
   go_wp2_with fail
   refine HN.out.mono ?_;rintro e w3 ⟨rfl,hs3,hk3⟩
   go_wp2_with fail
   go_ret;rw[HRR.out];exact⟨rfl,hs3,HK0.out.trans hk3⟩
  have e20:((op:Int)==20)=false:=by rw[beq_eq_false_iff_ne];omega
  have HRR:=hzz (show R=(s.need false 8,0) by rw[HR.out];unfold LW.con;rw[if_neg (fun h=>by rw[h74]at h;simp at h),if_neg (fun h=>by rw[h74]at h;simp at h),if_neg (fun h=>h20 h.2.1)])
  clear HR h74 h20;go_enter Tryz.func71,Tryz.ntmps71
  go_upto_region 1 with fail
  generalize w.alloc _=W at*;obtain⟨j0,j1,j2,j3,j4,j5,j6,-,-,-,-,-,-⟩:=HXB.out.box;dsimp only at j0 j1 j2 j3 j4 j5 j6;have HN:=hzz (A0v W B g s false 8 HS1.out)
  go_wp2_with fail
  refine HN.out.mono ?_;rintro e w3 ⟨rfl,hs3,hk3⟩
  go_wp2_with fail
  go_ret;rw[HRR.out];exact⟨rfl,hs3,HK0.out.trans hk3⟩
 have d73:(ds==[73])=false:=by simpa using h73
 have d83:(ds==[83])=false:=by simpa using h83
 have d74:(ds==[74])=false:=by simpa using h74
 have HRR:=hzz (show R=(s.need false 8,0) by rw[HR.out];unfold LW.con;rw[if_neg (fun h=>h73 h.1),if_neg (fun h=>h83 h.1),if_neg (fun h=>h74 h.1)]);clear HR h73 h83 h74
 go_enter Tryz.func71,Tryz.ntmps71
 go_upto_region 1 with fail
 generalize w.alloc _=W at*;obtain⟨j0,j1,j2,j3,j4,j5,j6,-,-,-,-,-,-⟩:=HXB.out.box;dsimp only at j0 j1 j2 j3 j4 j5 j6;have HN:=hzz (A0v W B g s false 8 HS1.out)
 go_wp2_with fail
 refine HN.out.mono ?_;rintro e w3 ⟨rfl,hs3,hk3⟩
 go_wp2_with fail
 go_ret;rw[HRR.out];exact⟨rfl,hs3,HK0.out.trans hk3⟩
end
end Go.Proofs.YtclpkipaehpkdaaGreatDoor
