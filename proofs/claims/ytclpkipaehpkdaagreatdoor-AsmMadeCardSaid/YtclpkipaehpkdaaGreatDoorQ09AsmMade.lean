/- asm -/
import Derived.Test.YtclpkipaehpkdaaGreatDoorQ05AsmMade
set_option linter.unusedVariables false
set_option linter.unusedSimpArgs false
set_option maxRecDepth 100000
set_option maxHeartbeats 64000000
namespace Go.Proofs.YtclpkipaehpkdaaGreatDoor
section
open Go.ChangeShapes Go.WideShapes Go.ChangeAt Go.RowKit
def A3c(w:World)(B:Nat)(v:Value)(m:Nat)(bs:List UInt8):Prop:=w.ownsRow B 5 1 v m (bs.map A5f)\/∃g C,v= .slice (some ⟨g,0,none⟩) m m/\w.heap[g]? =some (.cells C 5 (0,0))/\Sl A5f w (some ⟨g,0,none⟩) m bs
theorem A3c.sl{w:World}{B:Nat}{v:Value}{m:Nat}{bs:List UInt8}(h:A3c w B v m bs):∃a c,v= .slice a m c/\Sl A5f w a m bs/\m<=c:=by
 rcases h with h|⟨g,C,rfl,_,h⟩
 ·obtain⟨a,c,rfl,hs,hc⟩:=Sl.ofOwn h;exact⟨a,c,rfl,hs,hc⟩
 exact⟨_,m,rfl,h,Nat.le_refl _⟩
theorem A3c.below{w w':World}{B:Nat}{v:Value}{m:Nat}{bs:List UInt8}(h:A3c w B v m bs)(hb:Below w.heap.size w w'):A3c w' B v m bs:=by
 rcases h with h|⟨g,C,rfl,hg,h⟩
 ·exact .inl (A0x h hb)
 exact .inr ⟨g,C,rfl,by rw[hb.block g (Array.getElem?_eq_some_iff.1 hg).1];exact hg,h.below hb⟩
theorem A3c.clip{w w':World}{B B':Nat}{a:Option Addr}{c m:Nat}{bs:List UInt8}(h:w.ownsRow B 5 1 (.slice a (m+1) c) (m+1) (bs.map A5f))(hb:Below w.heap.size w w')(hs:Sl A5f w' a (m+1) bs):A3c w' B' (.slice a (m+1) (m+1)) (m+1) bs:=by
 rcases h.2 with⟨_,h1⟩|⟨g,cap,cur,hv,_,hc,_⟩
 ·omega
 cases hv
 exact .inr ⟨g,cur,rfl,by rw[hb.block g (Array.getElem?_eq_some_iff.1 hc).1];exact hc,hs⟩
def D9t(w w':World):Prop:=w.heap.size<=w'.heap.size/\∀(g:Nat) (cs:Array Value) (t:TypeId) (fr:Nat×Nat),w.heap[g]? =some (.cells cs t fr)->t≠5->w'.heap[g]? =some (.cells cs t fr)
theorem A5w{w:World}{ops:Array Oper}{rest:List Oper}{o:Oper}{a:Act}{Q:Exit->Act->World->Prop}(hgd:Region.wanted o (yielded ops a.tmps)=true)(s x:Operand)
  (ho:o.op= .call {callee:= .builtin .append,args:= #[s,x],argTypes:= #[43,43]})
  (B:Nat) (v:Value) (m:Nat) (bs:List UInt8) (hv:a.eval s=v) (hX:A3c w B v m bs)
  (C:Array Value) (k c sz:Nat) (hy:a.eval x= .slice (some ⟨sz,0,none⟩) k c) (hsz:w.heap.size=sz) (hC:C.size=k) (hone:C.toList.all (·.oneCell')=true) (hk:0<k) (hlen:m+k<=140737488355328) (hB:B<=w.heap.size)
  (h:∀v' w',w'.ownsRow B 5 1 v' (m+k) (bs.map A5f++C.toList)->D9t w w'->Below B w w'->wpList Tryz.prog ops Q rest (a.put o.dst v') w'):wpList Tryz.prog ops Q (o::rest) a (w.alloc (.cells C 5)):=by
 subst hsz
 rcases hX with hX|⟨gd,Cd,rfl,_,hX⟩
 ·refine A7i E1m hgd s x ho B v m _ hv hX C k c hy hC hone (by omega) (by unfold maxLen;omega) hB (fun v' w' h1 h2 h3=>h v' w' h1 ⟨?_,fun g cs t fr hg ht=> ?_⟩ h3)
  ·have h4:=h2.size;simp at h4;omega
  exact B8i hX h2 hg (Ne.symm ht)
 refine A6v (enc:=A5f) E1m hgd s x ho w.heap.size _ m m bs hv hX C k c hy hC hone (by omega) nlz (by omega) (by unfold maxLen;omega) nlz (fun v' w' h1 h3=>h v' w' (A1y h1 hB) ⟨h3.size,fun g cs t fr hg ht=> ?_⟩ (h3.mono hB))
 rw[h3.block g (Array.getElem?_eq_some_iff.1 hg).1];exact hg
theorem C0b(l:List RW)(j:Nat)(r:RW)(h:l[j]? =some r):A6s (l.take (j+1))=A6s (l.take j)++A4h r:=by
 obtain⟨hj,he⟩:=gsz h;unfold A6s;rw[List.take_succ_eq_append_getElem hj,List.flatMap_append,he];simp
theorem D1m(l:List RW)(j:Nat)(r:RW)(h:l[j]? =some r):A3m l j=(A1h r (A0g r.op)&&decide (r.pos=((A6s (l.take j)).length:Nat))):=by
 unfold A3m;rw[h]
theorem B6v{l:List RW}(h:∀k,k<l.length->A3m l k=true):(List.range l.length).all (A3m l)=true:=by
 rw[List.all_eq_true];intro k hk;exact h k (by simpa using hk)
theorem C6m{l:List RW}(j:Nat)(hj:j<l.length)(h:A3m l j=false):A1t l=(8,[]):=by
 unfold A1t
 have:(List.range l.length).all (A3m l)=false:=by
  rw[List.all_eq_false];exact⟨j,by simpa using hj,by simp[h]⟩
 rw[if_pos this]
theorem B7w{l:List RW}(h:∀k,k<l.length->A3m l k=true)(hg:A7e l=false):A1t l=(2,[]):=by
 unfold A1t;rw[if_neg (by rw[B6v h];decide),if_pos hg]
theorem C0m{l:List RW}(h:∀k,k<l.length->A3m l k=true)(hg:A7e l=true)(hl:4096<(A6s l).length):A1t l=(9,[]):=by
 unfold A1t;rw[if_neg (by rw[B6v h];decide),if_neg (by rw[hg];decide),if_pos hl]
theorem C8j{l:List RW}(h:∀k,k<l.length->A3m l k=true)(hg:A7e l=true)(hl:¬4096<(A6s l).length):A1t l=(0,A6s l):=by
 unfold A1t;rw[if_neg (by rw[B6v h];decide),if_neg (by rw[hg];decide),if_neg hl]
theorem E2m(p:Int)(o:Nat)(x y:Int)(h:A0g o=7):A4h ⟨p,o,x,y⟩=[UInt8.ofNat o]++A7x (A7n (x-p)) 2:=by unfold A4h;simp[h]
theorem E2i(p:Int)(o:Nat)(x y:Int)(h:A0g o=8):A4h ⟨p,o,x,y⟩=[UInt8.ofNat o]++A7x (A7n x) 1++A7x (A7n y) 1:=by unfold A4h;simp[h]
theorem E2f(p:Int)(o:Nat)(x y:Int)(h7:A0g o≠7)(h8:A0g o≠8):A4h ⟨p,o,x,y⟩=[UInt8.ofNat o]++A7x (A7n x) (A0w (A0g o) -1):=by unfold A4h;simp[h7,h8]
def A5z(R:Int×List UInt8)(w:World)(e:Ending)(w':World):Prop:=
 ∃a m c,e= .returned (.tuple #[.slice a m c,.int .i64 R.1])/\Sl A5f w' a m R.2/\m<=c/\Below w.heap.size w w'/\A3c w' w.heap.size (.slice a m c) m R.2
theorem A5z.err{R:Int×List UInt8}{w w':World}{e:Int}(h:R=(e,[]))(hb:Below w.heap.size w w'):A5z R w (.returned (.tuple #[.slice none 0 0,.int .i64 e])) w':=by
 subst h;exact⟨_,0,0,rfl,Sl.nil _ _,Nat.le_refl _,hb,.inl (World.ownsRow_nil _ _ _ _)⟩
theorem D3f(o:Nat)(h:o<256):Value.int .u8 (o:Nat)=A5f (UInt8.ofNat o):=by unfold A5f;rw[UInt8.toNat_ofNat_of_lt' h]
theorem C2a(w:World)(a:Option Addr)(n cap:Nat)(L:List RW)(hs:Rs w a n L)(hn:n<=65536)(hw:∀r∈L,A4b r.pos/\A4b r.a/\r.op<256):Calls Tryz.prog 123 #[.slice a n cap] w (A5z (A1t L) w):=by
 have HS:=hzz hs;have HLn:=hzz hs.1;have HW:=hzz hw;obtain⟨R,hR⟩:=exz (A1t L);rw[<-hR];have HR:=hzz hR
 have HGS:=hzz (fun w' (hb:Below w.heap.size w w')=>C3h w' a n cap L (hs.below hb) hn hw);clear hs hR hw;have hz:=D6p;go_enter Tryz.func123,Tryz.ntmps123
 go_wp2_with fail
 refine(B3q _).mono ?_;rintro e w1 ⟨rfl,hb1⟩;have HB1:=hzz hb1;clear hb1
 go_wp2_with (first
  |(refine A8u rfl _ _ _ rfl _ rfl rfl _ _ (by rw[A2x];exact B0p) (by simp[A2x,zs8]) (B6s _) ?_))
 clear hz;have HT1:=hzz (heap_alloc_last w1 (.cells (A8s A0g) 164));have HB2:=hzz (HB1.out.alloc HB1.out.size (.cells (A8s A0g) 164));generalize w1.alloc _=w2 at*
 generalize hgt:w1.heap.size=gt at*;clear hgt HB1
 go_loopg [12,5] n (fun gn i v wr=>∃j m:Nat,j<=n/\gn=n-j/\i= .int .i64 j/\m<=3*j/\Hid ((A6s (L.take j)).length=m)/\Hid (A3c wr w.heap.size v m (A6s (L.take j)))/\Hid (∀k,k<j->A3m L k=true)/\
  Hid (wr.heap[gt]? =some (.cells (A8s A0g) 164))/\Hid (Below w.heap.size w wr))
 case atStart=>exact⟨0,0,by omega,by omega,by go_num,by omega,hzz rfl,hzz (.inl (World.ownsRow_nil _ _ _ _)),hzz (fun k h=>by omega),HT1,HB2⟩
 obtain⟨j,m,hj,rfl,rfl,hm,HM,HO,HG,HT,HB⟩:=hrel;by_cases hlt:j<n
 ·obtain⟨b,off,r,rfl,_,hr,q⟩:=(HS.out.below HB.out).at j hlt;obtain⟨q0,q1,q2,q3⟩:=q;have hjl:j<L.length:=by rw[HLn.out];exact hlt
  have hwr:=HW.out r (List.mem_of_getElem? hr);have HGA:=hzz (D1m L j r hr);have HEN:=hzz (C0b L j r hr);have HBD:=hzz (C6m (l:=L) j hjl);obtain⟨p,o,x,y⟩:=r
  simp only at q0 q1 q2 q3 hwr HGA;rw[HM.out]at HGA;obtain⟨hp,hx,ho⟩:=hwr;have o1:(o:Int)<256:=by omega
  have j1:(j:Int)<n:=by omega
  have hf9:=A4z o;have HFI:=hzz (fun w'=>D2x w' ⟨p,o,x,y⟩ (A0g o) hf9);have HSZ:=hzz (fun(w':World)=>A4k w' (A0g o) hf9)
  have hgl:gt<wr.heap.size:=(Array.getElem?_eq_some_iff.1 HT.out).1;have tc:wr.cell? ⟨gt,o,none⟩=some (.int .u8 (A0g o:Nat)):=by rw[cell_of_row wr _ _ _ _ _ HT.out];exact B0s _ _ ho
  have HE7:=hzz (E2m p o x y);have HE8:=hzz (E2i p o x y);have HEE:=hzz (E2f p o x y);have hs3:=B3d (A0g o);have HF0:=hzz (show A1h ⟨p,o,x,y⟩ 0=false from by unfold A1h;simp)
  have hsp:=fun h0=>B1j (f:=A0g o) h0 hf9
  obtain⟨e,he⟩:=exz (A6s (L.take j))
  have HGN:=hzz (show A3m L j=true->∀k,k<j+1->A3m L k=true from fun h k hk=>by
   rcases Nat.lt_or_ge k j with h1|h1
   ·exact HG.out k h1
   obtain rfl:k=j:=by omega
   exact h)
  rw[<-he]at HM HO HEN;clear hr hjl he HG;have HPF:=hzz (show A0g o=0->A1h ⟨p,o,x,y⟩ (A0g o)=false from fun h=>by rw[h];exact HF0.out);generalize hft:A1h ⟨p,o,x,y⟩ (A0g o)=ft at*
  clear hft;generalize A0g o=f at*;generalize A0w f=s at*;simp only at HFI
  go_upto_region 6 with fail
  have HAL:=hzz (HB.out.alloc HB.out.size (.cells #[.int .i64 p,.int .u8 (o:Nat),.int .i64 x,.int .i64 y] 118))
  have HOA:=hzz (HO.out.below ((Below.refl wr.heap.size wr).alloc nlz (.cells #[.int .i64 p,.int .u8 (o:Nat),.int .i64 x,.int .i64 y] 118)))
  have HTA:=hzz (show(wr.alloc (.cells #[.int .i64 p,.int .u8 (o:Nat),.int .i64 x,.int .i64 y] 118)).heap[gt]? =some (.cells (A8s A0g) 164) by rw[Below.heap_alloc _ _ _ hgl];exact HT.out)
  have HKA:=hzz (show B0b (wr.alloc (.cells #[.int .i64 p,.int .u8 (o:Nat),.int .i64 x,.int .i64 y] 118)) wr.heap.size p o x y from heap_alloc_last wr _)
  have tcA:=A0c ((Below.refl wr.heap.size wr).alloc nlz (.cells #[.int .i64 p,.int .u8 (o:Nat),.int .i64 x,.int .i64 y] 118)) tc;clear tc q0 q1 q2 q3;generalize wr.alloc _=W at*
  generalize hg0:wr.heap.size=g at*;clear hg0 hgl HT HB HO;obtain⟨⟨c0,c1,c2,c3⟩,_,hgW⟩:=HKA.out.box;have hgtW:gt<W.heap.size:=(Array.getElem?_eq_some_iff.1 HTA.out).1
  go_wp2_with fail
  refine(HFI.out _).mono ?_;rintro e' w5 ⟨rfl,hb5⟩;have HB5:=btz HAL hb5;have HO5:=hzz (HOA.out.below hb5)
  have HT5:=hzz (show w5.heap[gt]? =some (.cells (A8s A0g) 164) by rw[hb5.block gt hgtW];exact HTA.out);have HK5:=hzz (HKA.out.below hb5);clear hb5 c0 c1 c2 c3 tcA
  obtain⟨⟨c0,c1,c2,c3⟩,_,hgW5⟩:=HK5.out.box
  cases ft
  ·have HQ:=hzz (show R=(8,[]) by rw[HR.out];exact HBD.out (by rw[HGA.out];rfl));clear HBD HGA HPF
   go_wp2_with fail
   go_ret2;exact A5z.err HQ.out HB5.out
  have h0:f≠0:=fun h=>by have:=HPF.out h;cases this
  have hs1:=hsp h0;clear h0 hsp HPF;obtain⟨ov,oc,rfl,_,_⟩:=HO5.out.sl;by_cases hpm:p=m
  case' neg=>
   have HQ:=hzz (show R=(8,[]) by rw[HR.out];exact HBD.out (by rw[HGA.out];simp[hpm]));have epm:(p !=(m:Int))=true:=by simp[hpm]
   clear HBD HGA hpm
   go_wp2_with fail
   go_ret2;exact A5z.err HQ.out HB5.out
  have epm:(p !=(m:Int))=false:=by simp[hpm]
  have HGX:=hzz (HGN.out (by rw[HGA.out];simp[hpm]));have HPM:=hzz hpm;obtain⟨ux,hux⟩:∃u,u=A7n x:=⟨_,rfl⟩;obtain⟨uy,huy⟩:∃u,u=A7n y:=⟨_,rfl⟩
  obtain⟨ud,hud⟩:∃u,u=A7n (x-p):=⟨_,rfl⟩;have wx:IntKind.u64.wrap x=(ux:Int):=by rw[hux];exact B1m x
  have wy:IntKind.u64.wrap y=(uy:Int):=by rw[huy];exact B1m y
  have wp:IntKind.u64.wrap p=(m:Int):=by rw[hpm,IntKind.wrap_u64];omega
  have wd:IntKind.u64.wrap ((ux:Int) -(m:Int))=(ud:Int):=by
   rw[hud,<-B1m,<-hpm,hux,<-B1m];simp only[IntKind.wrap_u64];omega
  have HLX:=hzz (show ux<18446744073709551616 by rw[hux];exact C1e _);have HLY:=hzz (show uy<18446744073709551616 by rw[huy];exact C1e _)
  have HLD:=hzz (show ud<18446744073709551616 by rw[hud];exact C1e _);rw[<-hux,<-huy]at HE8;rw[<-hux]at HEE;rw[<-hud]at HE7;have m6:m<=196608:=by omega
  have HEB:=hzz (D3f o ho);clear hpm hux huy hud HBD HGA HGN
  have HFIN:=hzz (show ∀(u:World) (t:List UInt8) v,Hid (A4h ⟨p,o,x,y⟩=t)->A3c u w.heap.size v (m+t.length) (e++t)->u.heap[gt]? =some (.cells (A8s A0g) 164)->Below w.heap.size w u->t.length<=3->
    (∃m':Nat,m'<=3*(j+1)/\Hid ((A6s (L.take (j+1))).length=m')/\Hid (A3c u w.heap.size v m' (A6s (L.take (j+1))))/\Hid (∀k,k<j+1->A3m L k=true)/\Hid (u.heap[gt]? =some (.cells (A8s A0g) 164))/\Hid (Below w.heap.size w u))from fun u t v ht hO hT hB hl=>
   ⟨m+t.length,by omega,hzz (by rw[HEN.out,List.length_append,HM.out,ht.out]),hzz (by rw[HEN.out,ht.out];exact hO),HGX,hzz hT,hzz hB⟩)
  by_cases h7:f=7
  ·subst h7;clear HE8 HEE HSZ
   go_wp2_with (at_builtin;first
    |(refine A5w rfl _ _ rfl w.heap.size _ m e rfl HO5.out _ 1 _ _ rfl rfl rfl rfl (by omega) (by omega) HB5.out.size ?_;intro v6 w6 hown6 hk6 hb6;have hq:w6.ownsRow w.heap.size 5 1 v6 (m+1) ((e++[UInt8.ofNat o]).map A5f):=(by rw[List.map_append,List.map_cons,<-HEB.out];exact hown6);obtain⟨a6,c6,rfl,hs6,hc6⟩:=Sl.ofOwn hq;have HO6:=hzz hq;have HS6:=hzz hs6;have HB6:=hzz (HB5.out.trans hb6);have HT6:=hzz (hk6.2 _ _ _ _ HT5.out (by decide));have HK6:=hzz (show B0b w6 g p o x y from hk6.2 _ _ _ _ HK5.out (by decide));clear hown6 hk6 hb6 hs6 hq c0 c1 c2 c3;obtain⟨⟨c0,c1,c2,c3⟩,_,hgW6⟩:=HK6.out.box))
   refine(B3t _ a6 (m+1) c6 (e++[UInt8.ofNat o]) ud 2 HS6.out (by omega) hc6 HLD.out (by decide) (by decide)).mono ?_;rintro e' w7 ⟨v7,m7,rfl,ho7,hb7⟩
   obtain rfl:m7=m+1+2:=by have h1:=ho7.1;have h2:=HS6.out.1;rw[List.length_map,List.length_append,A1n,h2]at h1;omega
   have HT7:=hzz (show w7.heap[gt]? =some (.cells (A8s A0g) 164) by rw[hb7.block gt (Array.getElem?_eq_some_iff.1 HT6.out).1];exact HT6.out);have HO7:=hzz (A1y ho7 HB6.out.size)
   have HB7:=btz HB6 hb7;clear ho7 hb7 c0 c1 c2 c3
   go_wp2_with fail
   go_roundg (n-(j+1))
   case measure=>omega
   obtain⟨m',h1,h2,h3,h4,h5,h6⟩:=HFIN.out _ ([UInt8.ofNat o]++A7x ud 2) _ (hzz (HE7.out (by trivial))) (.inl (by rw[show m+([UInt8.ofNat o]++A7x ud 2).length=m+1+2 by simp[A1n]<;>omega,<-List.append_assoc];exact HO7.out)) HT7.out HB7.out (by simp[A1n])
   exact⟨j+1,m',by omega,rfl,by go_num,h1,h2,h3,h4,h5,h6⟩
  by_cases h8:f=8
  ·subst h8;clear HE7 HEE HSZ h7
   go_wp2_with (at_builtin;first
    |(refine A5w rfl _ _ rfl w.heap.size _ m e rfl HO5.out _ 1 _ _ rfl rfl rfl rfl (by omega) (by omega) HB5.out.size ?_;intro v6 w6 hown6 hk6 hb6;have hq:w6.ownsRow w.heap.size 5 1 v6 (m+1) ((e++[UInt8.ofNat o]).map A5f):=(by rw[List.map_append,List.map_cons,<-HEB.out];exact hown6);obtain⟨a6,c6,rfl,hs6,hc6⟩:=Sl.ofOwn hq;have HO6:=hzz hq;have HS6:=hzz hs6;have HB6:=hzz (HB5.out.trans hb6);have HT6:=hzz (hk6.2 _ _ _ _ HT5.out (by decide));have HK6:=hzz (show B0b w6 g p o x y from hk6.2 _ _ _ _ HK5.out (by decide));clear hown6 hk6 hb6 hs6 hq c0 c1 c2 c3;obtain⟨⟨c0,c1,c2,c3⟩,_,hgW6⟩:=HK6.out.box))
   have ld2:=fun w' (h:Below w6.heap.size w6 w')=>A0c h c2
   have ld3:=fun w' (h:Below w6.heap.size w6 w')=>A0c h c3
   have hSw:Below w6.heap.size w6 w6.drew:=brz.drew;clear c0 c1 c2 c3
   refine A6m (Below w6.heap.size w6) [(0,true),(1,true),(2,true),(3,true),(5,true),(6,true),(7,true),(4,false),(8,false),(9,true)] (by kernel_rfl) (by kernel_rfl) (fun c a d v w h=>by cases d<;>exact h) ?_
   iterate 7
    refine A2m fun K hK=>tkF ?_
    go_simp
    try go_bits
    refine hK _ _ ?_;clear hK K
   refine A2m fun K hK=>alF ?_
   go_step;refine(B3t _ a6 (m+1) c6 (e++[UInt8.ofNat o]) ux 1 (HS6.out.below brz.drew) (by omega) hc6 HLX.out (by decide) (by decide)).mono ?_;rintro e' w7 ⟨v7,m7,rfl,ho7,hb7⟩
   replace hSw:Below w6.heap.size w6 w7:=hSw.trans (hb7.mono (by simp))
   obtain rfl:m7=m+1+1:=by have h1:=ho7.1;have h2:=HS6.out.1;rw[List.length_map,List.length_append,A1n,h2]at h1;omega
   obtain⟨a7,c7,rfl,hs7,hc7⟩:=Sl.ofOwn ho7;have HS7:=hzz hs7;clear ho7 hb7 hs7;go_simp;refine hK _ _ ?_;clear hK K;refine A2m fun K hK=>alF ?_
   go_step;refine(B3t _ a7 (m+1+1) c7 _ uy 1 HS7.out (by omega) hc7 HLY.out (by decide) (by decide)).mono ?_;rintro e' w8 ⟨v8,m8,rfl,ho8,hb8⟩
   obtain rfl:m8=m+1+1+1:=by have h1:=ho8.1;have h2:=HS7.out.1;rw[List.length_map,List.length_append,A1n,h2]at h1;omega
   have HO8:=hzz (A1y ho8 (Nat.le_trans HB6.out.size hSw.size));replace hSw:Below w6.heap.size w6 w8:=hSw.trans (hb8.mono hSw.size);have HB8:=btz HB6 hSw
   have HT8:=hzz (show w8.heap[gt]? =some (.cells (A8s A0g) 164) by rw[hSw.block gt (Array.getElem?_eq_some_iff.1 HT6.out).1];exact HT6.out);clear ho8 hb8;go_simp;refine hK _ _ ?_;clear hK K
   iterate 1
    refine A2m fun K hK=>tkF ?_
    go_simp
    try go_bits
    refine hK _ _ ?_;clear hK K
   refine B6u ?_;clear ld2 ld3 hSw
   go_wp2_with fail
   go_roundg (n-(j+1))
   case measure=>omega
   obtain⟨m',h1,h2,h3,h4,h5,h6⟩:=HFIN.out _ ([UInt8.ofNat o]++A7x ux 1++A7x uy 1) _ (hzz (HE8.out (by trivial))) (.inl (by rw[show m+([UInt8.ofNat o]++A7x ux 1++A7x uy 1).length=m+1+1+1 by simp[A1n],<-List.append_assoc,<-List.append_assoc];exact HO8.out)) HT8.out HB8.out (by simp[A1n])
   exact⟨j+1,m',by omega,rfl,by go_num,h1,h2,h3,h4,h5,h6⟩
  have e7:((f:Int)==7)=false:=by simp;omega
  have e8:((f:Int)==8)=false:=by simp;omega
  replace h7:=hzz h7;replace h8:=hzz h8;clear HE7 HE8;have hs123:s=1\/s=2\/s=3:=by omega
  rcases hs123 with rfl|rfl|rfl
  ·go_wp2_with (at_builtin;first
    |(refine A5w rfl _ _ rfl w.heap.size _ m e rfl HO5.out _ 1 _ _ rfl rfl rfl rfl (by omega) (by omega) HB5.out.size ?_;intro v6 w6 hown6 hk6 hb6;have hq:w6.ownsRow w.heap.size 5 1 v6 (m+1) ((e++[UInt8.ofNat o]).map A5f):=(by rw[List.map_append,List.map_cons,<-HEB.out];exact hown6);obtain⟨a6,c6,rfl,hs6,hc6⟩:=Sl.ofOwn hq;have HO6:=hzz hq;have HS6:=hzz hs6;have HB6:=hzz (HB5.out.trans hb6);have HT6:=hzz (hk6.2 _ _ _ _ HT5.out (by decide));have HK6:=hzz (show B0b w6 g p o x y from hk6.2 _ _ _ _ HK5.out (by decide));clear hown6 hk6 hb6 hs6 hq c0 c1 c2 c3;obtain⟨⟨c0,c1,c2,c3⟩,_,hgW6⟩:=HK6.out.box))
   have ld2:=fun w' (h:Below w6.heap.size w6 w')=>A0c h c2
   have ld3:=fun w' (h:Below w6.heap.size w6 w')=>A0c h c3
   have hSw:Below w6.heap.size w6 w6.drew:=brz.drew;clear c0 c1 c2 c3
   refine A6m (Below w6.heap.size w6) [(0,true),(1,true),(2,true),(3,true),(4,true),(5,false),(6,true),(7,false),(8,true)] (by kernel_rfl) (by kernel_rfl) (fun c a d v w h=>by cases d<;>exact h) ?_
   iterate 5
    refine A2m fun K hK=>tkF ?_
    go_simp
    try go_bits
    refine hK _ _ ?_;clear hK K
   refine A2m fun K hK=>alF ?_
   go_step;refine(HSZ.out _).mono ?_;rintro e' w' ⟨rfl,rfl⟩;go_simp;refine hK _ _ ?_;clear hK K
   iterate 1
    refine A2m fun K hK=>tkF ?_
    go_simp
    try go_bits
    refine hK _ _ ?_;clear hK K
   refine A2m fun K hK=>alF ?_
   go_step;refine(D7c _ a6 (m+1) c6 ux 0 hc6 (by decide)).mono ?_;rintro e' w7 ⟨rfl,rfl⟩;go_simp;refine hK _ _ ?_;clear hK K
   iterate 1
    refine A2m fun K hK=>tkF ?_
    go_simp
    try go_bits
    refine hK _ _ ?_;clear hK K
   refine B6u ?_;have HB7:=btz HB6 hSw;have HT7:=hzz (show w6.drew.heap[gt]? =some (.cells (A8s A0g) 164)from HT6.out);have HS7:=hzz (HS6.out.below hSw);have HSW7:=hzz hSw;clear ld2 ld3 hSw
   go_wp2_with fail
   go_roundg (n-(j+1))
   case measure=>omega
   case rel=>
    obtain⟨m',h1,h2,h3,h4,h5,h6⟩:=HFIN.out _ ([UInt8.ofNat o]++A7x ux (1-1)) _ (hzz (HEE.out h7.out h8.out)) (A3c.clip HO6.out HSW7.out HS7.out) HT7.out HB7.out (by simp[A1n])
    exact⟨j+1,m',by omega,rfl,by go_num,h1,h2,h3,h4,h5,h6⟩
  ·go_wp2_with (at_builtin;first
    |(refine A5w rfl _ _ rfl w.heap.size _ m e rfl HO5.out _ 1 _ _ rfl rfl rfl rfl (by omega) (by omega) HB5.out.size ?_;intro v6 w6 hown6 hk6 hb6;have hq:w6.ownsRow w.heap.size 5 1 v6 (m+1) ((e++[UInt8.ofNat o]).map A5f):=(by rw[List.map_append,List.map_cons,<-HEB.out];exact hown6);obtain⟨a6,c6,rfl,hs6,hc6⟩:=Sl.ofOwn hq;have HO6:=hzz hq;have HS6:=hzz hs6;have HB6:=hzz (HB5.out.trans hb6);have HT6:=hzz (hk6.2 _ _ _ _ HT5.out (by decide));have HK6:=hzz (show B0b w6 g p o x y from hk6.2 _ _ _ _ HK5.out (by decide));clear hown6 hk6 hb6 hs6 hq c0 c1 c2 c3;obtain⟨⟨c0,c1,c2,c3⟩,_,hgW6⟩:=HK6.out.box))
   have ld2:=fun w' (h:Below w6.heap.size w6 w')=>A0c h c2
   have ld3:=fun w' (h:Below w6.heap.size w6 w')=>A0c h c3
   have hSw:Below w6.heap.size w6 w6.drew:=brz.drew;clear c0 c1 c2 c3
   refine A6m (Below w6.heap.size w6) [(0,true),(1,true),(2,true),(3,true),(4,true),(5,false),(6,true),(7,false),(8,true)] (by kernel_rfl) (by kernel_rfl) (fun c a d v w h=>by cases d<;>exact h) ?_
   iterate 5
    refine A2m fun K hK=>tkF ?_
    go_simp
    try go_bits
    refine hK _ _ ?_;clear hK K
   refine A2m fun K hK=>alF ?_
   go_step;refine(HSZ.out _).mono ?_;rintro e' w' ⟨rfl,rfl⟩;go_simp;refine hK _ _ ?_;clear hK K
   iterate 1
    refine A2m fun K hK=>tkF ?_
    go_simp
    try go_bits
    refine hK _ _ ?_;clear hK K
   refine A2m fun K hK=>alF ?_
   go_step;refine(B3t _ a6 (m+1) c6 (e++[UInt8.ofNat o]) ux 1 (HS6.out.below brz.drew) (by omega) hc6 HLX.out (by decide) (by decide)).mono ?_;rintro e' w7 ⟨v7,m7,rfl,ho7,hb7⟩
   replace hSw:Below w6.heap.size w6 w7:=hSw.trans (hb7.mono (by simp))
   obtain rfl:m7=m+1+1:=by have h1:=ho7.1;have h2:=HS6.out.1;rw[List.length_map,List.length_append,A1n,h2]at h1;omega
   have HO7:=hzz (A1y ho7 HB6.out.size);have HB7:=btz HB6 hSw
   have HT7:=hzz (show w7.heap[gt]? =some (.cells (A8s A0g) 164) by rw[hSw.block gt (Array.getElem?_eq_some_iff.1 HT6.out).1];exact HT6.out);clear ho7 hb7;go_simp;refine hK _ _ ?_;clear hK K
   iterate 1
    refine A2m fun K hK=>tkF ?_
    go_simp
    try go_bits
    refine hK _ _ ?_;clear hK K
   refine B6u ?_;clear ld2 ld3 hSw
   go_wp2_with fail
   go_roundg (n-(j+1))
   case measure=>omega
   case rel=>
    obtain⟨m',h1,h2,h3,h4,h5,h6⟩:=HFIN.out _ ([UInt8.ofNat o]++A7x ux (2-1)) _ (hzz (HEE.out h7.out h8.out)) (.inl (by rw[show m+([UInt8.ofNat o]++A7x ux (2-1)).length=m+1+1 by simp[A1n]<;>omega,<-List.append_assoc];exact HO7.out)) HT7.out HB7.out (by simp[A1n])
    exact⟨j+1,m',by omega,rfl,by go_num,h1,h2,h3,h4,h5,h6⟩
  go_wp2_with (at_builtin;first
   |(refine A5w rfl _ _ rfl w.heap.size _ m e rfl HO5.out _ 1 _ _ rfl rfl rfl rfl (by omega) (by omega) HB5.out.size ?_;intro v6 w6 hown6 hk6 hb6;have hq:w6.ownsRow w.heap.size 5 1 v6 (m+1) ((e++[UInt8.ofNat o]).map A5f):=(by rw[List.map_append,List.map_cons,<-HEB.out];exact hown6);obtain⟨a6,c6,rfl,hs6,hc6⟩:=Sl.ofOwn hq;have HO6:=hzz hq;have HS6:=hzz hs6;have HB6:=hzz (HB5.out.trans hb6);have HT6:=hzz (hk6.2 _ _ _ _ HT5.out (by decide));have HK6:=hzz (show B0b w6 g p o x y from hk6.2 _ _ _ _ HK5.out (by decide));clear hown6 hk6 hb6 hs6 hq c0 c1 c2 c3;obtain⟨⟨c0,c1,c2,c3⟩,_,hgW6⟩:=HK6.out.box))
  have ld2:=fun w' (h:Below w6.heap.size w6 w')=>A0c h c2
  have ld3:=fun w' (h:Below w6.heap.size w6 w')=>A0c h c3
  have hSw:Below w6.heap.size w6 w6.drew:=brz.drew;clear c0 c1 c2 c3
  refine A6m (Below w6.heap.size w6) [(0,true),(1,true),(2,true),(3,true),(4,true),(5,false),(6,true),(7,false),(8,true)] (by kernel_rfl) (by kernel_rfl) (fun c a d v w h=>by cases d<;>exact h) ?_
  iterate 5
   refine A2m fun K hK=>tkF ?_
   go_simp
   try go_bits
   refine hK _ _ ?_;clear hK K
  refine A2m fun K hK=>alF ?_
  go_step;refine(HSZ.out _).mono ?_;rintro e' w' ⟨rfl,rfl⟩;go_simp;refine hK _ _ ?_;clear hK K
  iterate 1
   refine A2m fun K hK=>tkF ?_
   go_simp
   try go_bits
   refine hK _ _ ?_;clear hK K
  refine A2m fun K hK=>alF ?_
  go_step;refine(B3t _ a6 (m+1) c6 (e++[UInt8.ofNat o]) ux 2 (HS6.out.below brz.drew) (by omega) hc6 HLX.out (by decide) (by decide)).mono ?_;rintro e' w7 ⟨v7,m7,rfl,ho7,hb7⟩
  replace hSw:Below w6.heap.size w6 w7:=hSw.trans (hb7.mono (by simp))
  obtain rfl:m7=m+1+2:=by have h1:=ho7.1;have h2:=HS6.out.1;rw[List.length_map,List.length_append,A1n,h2]at h1;omega
  have HO7:=hzz (A1y ho7 HB6.out.size);have HB7:=btz HB6 hSw
  have HT7:=hzz (show w7.heap[gt]? =some (.cells (A8s A0g) 164) by rw[hSw.block gt (Array.getElem?_eq_some_iff.1 HT6.out).1];exact HT6.out);clear ho7 hb7;go_simp;refine hK _ _ ?_;clear hK K
  iterate 1
   refine A2m fun K hK=>tkF ?_
   go_simp
   try go_bits
   refine hK _ _ ?_;clear hK K
  refine B6u ?_;clear ld2 ld3 hSw
  go_wp2_with fail
  go_roundg (n-(j+1))
  case measure=>omega
  obtain⟨m',h1,h2,h3,h4,h5,h6⟩:=HFIN.out _ ([UInt8.ofNat o]++A7x ux (3-1)) _ (hzz (HEE.out h7.out h8.out)) (.inl (by rw[show m+([UInt8.ofNat o]++A7x ux (3-1)).length=m+1+2 by simp[A1n]<;>omega,<-List.append_assoc];exact HO7.out)) HT7.out HB7.out (by simp[A1n])
  exact⟨j+1,m',by omega,rfl,by go_num,h1,h2,h3,h4,h5,h6⟩
 obtain rfl:j=n:=by omega
 have HLE:=hzz (show A6s (L.take j)=A6s L by rw[List.take_of_length_le (by rw[HLn.out];exact Nat.le_refl _)]);have HGA:=hzz (show ∀k,k<L.length->A3m L k=true by rw[HLn.out];exact HG.out)
 rw[HLE.out]at HO HM;have hgt:gt<wr.heap.size:=(Array.getElem?_eq_some_iff.1 HT.out).1
 go_wp2_with (first
  |(refine wpList_load_row rfl _ _ rfl _ rfl _ _ _ _ HT.out Tryz.underlying164 rfl (by rw[A2x];exact B0p) ?_))
 refine(HGS.out _ HB.out).mono ?_;rintro e w3 ⟨rfl,hb3⟩;have HB3:=btz HB hb3;have HOO:=HO.out.below hb3;obtain⟨va,vc,rfl,hss,hcc⟩:=HOO.sl;have HO3:=hzz HOO;have HS3:=hzz hss
 clear hb3 hgt hss HOO
 cases hg:A7e L
 ·have HQ:=hzz (show R=(2,[]) by rw[HR.out];exact B7w HGA.out hg);clear hg
  go_wp2_with fail
  go_ret2;exact A5z.err HQ.out HB3.out
 have HGO:=hzz hg;clear hg;by_cases hl:4096<m
 ·have HQ:=hzz (show R=(9,[]) by rw[HR.out];exact C0m HGA.out HGO.out (by rw[HM.out];exact hl));have e1:decide ((4096:Int)<m)=true:=by simp;omega
  go_wp2_with fail
  go_ret2;exact A5z.err HQ.out HB3.out
 have HQ:=hzz (show R=(0,A6s L) by rw[HR.out];exact C8j HGA.out HGO.out (by rw[HM.out];exact hl));have e1:decide ((4096:Int)<m)=false:=by simp;omega
 go_wp2_with fail
 go_ret2;exact⟨va,m,vc,by rw[HQ.out];rfl,by rw[HQ.out];exact HS3.out,hcc,HB3.out,by rw[HQ.out];exact HO3.out⟩
end
section
open Go.RowKit
theorem D6y(bs:List UInt8)(p f:Nat)(hf:2<=A0w f)(h3:A0w f<=3)(h:p+A0w f<=bs.length):A3t bs p f=((C2m ((bs.drop (p+1)).take (A0w f-1)):Nat):Int):=by
 unfold A3t;have hm:max (A0w f-1) 1=A0w f-1:=by omega
 rw[hm];unfold B0c;rw[if_neg (by omega),if_neg (by omega)];simp only;rw[show((p:Int)+1).toNat=p+1 by omega,Int.toNat_natCast]
theorem A5c(r:RW)(h0:A0g r.op≠0):(A4h r).length=A0w (A0g r.op):=by
 have h9:=A4z r.op;unfold A4h;generalize A0g r.op=f at*;have hfc:f=1\/f=2\/f=3\/f=4\/f=5\/f=6\/f=7\/f=8\/f=9:=by omega
 rcases hfc with rfl|rfl|rfl|rfl|rfl|rfl|rfl|rfl|rfl<;>simp[A1n,A0w]
theorem B6a{x:Int}(h: -128<=x/\x<=127):A2q ((A7n x%256:Nat):Int) 1=x:=by
 rw[show A2q ((A7n x%256:Nat):Int) 1=(((A7n x%256:Nat):Int)+128)%256-128 from rfl];unfold A7n;omega
theorem B5k{x:Int}(h: -32768<=x/\x<=32767):A2q ((A7n x%65536:Nat):Int) 2=x:=by
 rw[show A2q ((A7n x%65536:Nat):Int) 2=(((A7n x%65536:Nat):Int)+32768)%65536-32768 from rfl];unfold A7n;omega
theorem C9x(x y:Nat):C2m (A7x x 1++A7x y 1)=x%256*256+y%256:=by
 have h1:A7x y 1=[UInt8.ofNat (y%256)]:=by rw[B8p _ 0];simp[A7x]
 rw[h1,B3m,A8z];simp
theorem D6c(bs:List UInt8)(r:RW)(p:Nat)(t rest:List UInt8)(hop:r.op<256)(he:A4h r=[UInt8.ofNat r.op]++rest)(hbs:bs.drop p=A4h r++t):A6n bs p=r.op/\(bs.drop (p+1)).take rest.length=rest/\p+1+rest.length<=bs.length:=by
 rw[he]at hbs;have hl:(bs.drop p).length=1+rest.length+t.length:=by rw[hbs];simp;omega
 have hp:p<bs.length:=by rw[List.length_drop]at hl;omega
 rw[List.drop_eq_getElem_cons hp]at hbs;simp only[List.cons_append,List.nil_append,List.cons.injEq]at hbs;refine⟨?_,by rw[hbs.2];simp,by rw[List.length_drop]at hl;omega⟩;unfold A6n
 simp only[List.getD,List.getElem?_eq_getElem hp,Option.getD_some];rw[hbs.1,UInt8.toNat_ofNat_of_lt' hop]
theorem D7t(bs:List UInt8)(r:RW)(p:Nat)(t:List UInt8)(hop:r.op<256)(hpos:r.pos=p)(h0:A0g r.op≠0)(hf:A1h r (A0g r.op)=true)(hj:A0g r.op=7->-32768<=r.a-r.pos/\r.a-r.pos<=32767)(hbs:bs.drop p=A4h r++t):
  B2j bs p=r/\A5k bs p (A0g r.op)=false/\A6n bs p=r.op:=by
 have h9:=A4z r.op;obtain⟨rest,hrest⟩:∃rest,A4h r=[UInt8.ofNat r.op]++rest:=⟨_,rfl⟩;obtain⟨h1,h2,h3⟩:=D6c bs r p t rest hop hrest hbs;have hlen:=A5c r h0
 rw[hrest]at hlen;simp only[List.length_append,List.length_cons,List.length_nil,Nat.zero_add]at hlen;have hte:=D6y bs p (A0g r.op)
 have hr:rest=(if A0g r.op=7 then A7x (A7n (r.a-r.pos)) 2 else if A0g r.op=8 then A7x (A7n r.a) 1++A7x (A7n r.b) 1 else A7x (A7n r.a) (A0w (A0g r.op) -1)):=by
  have h:=hrest;unfold A4h at h;simp only[List.cons_append,List.nil_append,List.cons.injEq,true_and]at h;exact h.symm
 have hsub:A0w (A0g r.op) -1=rest.length:=by omega
 rw[hsub,h2]at hte
 have hAB:A3a bs p (A0g r.op)=r.a/\A4c bs p (A0g r.op)=r.b/\A5k bs p (A0g r.op)=false:=by
  unfold A5k A3a A4c;simp only;unfold A1h at hf;generalize A0g r.op=f at*;have hfc:f=1\/f=2\/f=3\/f=4\/f=5\/f=6\/f=7\/f=8\/f=9:=by omega
  by_cases h8:f=8
  ·subst h8;simp at hf;have hv:=hte (by decide) (by decide) (by rw[show A0w 8=3 from rfl]at hlen⊢;omega);rw[hr,if_neg (by decide),if_pos rfl,C9x]at hv;rw[hv]
   have e1:A7n r.a%256=A7n r.a:=Nat.mod_eq_of_lt (by unfold A7n;omega);have e2:=B6a (x:=r.b) (by omega);have e3:((A7n r.a:Nat):Int)=r.a:=by unfold A7n;omega
   have e4:A2q ((A7n r.a%256*256+A7n r.b%256:Nat):Int) 1=A2q ((A7n r.b%256:Nat):Int) 1:=by
    rw[show ∀v,A2q v 1=(v+128)%256-128 from fun v=>rfl,show ∀v,A2q v 1=(v+128)%256-128 from fun v=>rfl];omega
   refine⟨?_,?_,by simp⟩
   ·simp;omega
   rw[if_pos rfl,e4,e2]
  rcases hfc with rfl|rfl|rfl|rfl|rfl|rfl|rfl|rfl|rfl
  ·simp at hf;simp;omega
  ·simp at hf;have hv:=hte (by decide) (by decide) (by rw[show A0w 2=2 from rfl]at hlen⊢;omega);rw[hr,if_neg (by decide),if_neg (by decide),A8z]at hv;rw[hv];simp[A0w,A7n];omega
  ·simp at hf;have hv:=hte (by decide) (by decide) (by rw[show A0w 3=2 from rfl]at hlen⊢;omega);rw[hr,if_neg (by decide),if_neg (by decide),A8z]at hv;rw[hv]
   have e2:=B6a (x:=r.a) (by omega);refine⟨?_,by simp;omega,by simp⟩;simpa[A0w]using e2
  ·simp at hf;have hv:=hte (by decide) (by decide) (by rw[show A0w 4=3 from rfl]at hlen⊢;omega);rw[hr,if_neg (by decide),if_neg (by decide),A8z]at hv;rw[hv]
   have e2:=B5k (x:=r.a) (by omega);refine⟨?_,by simp;omega,by simp⟩;simpa[A0w]using e2
  ·simp at hf;have hv:=hte (by decide) (by decide) (by rw[show A0w 5=2 from rfl]at hlen⊢;omega);rw[hr,if_neg (by decide),if_neg (by decide),A8z]at hv;rw[hv];simp[A0w,A7n];omega
  ·simp at hf;have hv:=hte (by decide) (by decide) (by rw[show A0w 6=3 from rfl]at hlen⊢;omega);rw[hr,if_neg (by decide),if_neg (by decide),A8z]at hv;rw[hv];simp[A0w,A7n];omega
  ·simp at hf;have hv:=hte (by decide) (by decide) (by rw[show A0w 7=3 from rfl]at hlen⊢;omega);rw[hr,if_pos rfl,A8z]at hv;rw[hv];have e2:=B5k (x:=r.a-r.pos) (hj rfl)
   refine⟨?_,by simp;omega,by simp⟩;have e3:A2q ((A7n (r.a-r.pos)%256^2:Nat):Int) 2=r.a-r.pos:=e2;simp only[if_true];rw[e3];simp;omega
  ·exact absurd rfl h8
  simp at hf;have hv:=hte (by decide) (by decide) (by rw[show A0w 9=2 from rfl]at hlen⊢;omega);rw[hr,if_neg (by decide),if_neg (by decide),A8z]at hv;rw[hv]
  have e3:((A7n r.a%256^(A0w 9-1):Nat):Int)=r.a:=by
   rw[show 256^(A0w 9-1)=256 from rfl];unfold A7n;omega
  rw[e3];refine⟨by simp,by simp;omega,?_⟩
  rcases hf.2 with h|h<;>simp[h]
 exact⟨by unfold B2j;rw[h1,hAB.1,hAB.2.1,<-hpos],hAB.2.2,h1⟩
theorem B5w{l pre suf:List RW}{r:RW}(h:l=pre++r::suf)(hg:A3m l pre.length=true):A1h r (A0g r.op)=true/\r.pos=((A6s pre).length:Nat):=by
 subst h;unfold A3m at hg;rw[List.getElem?_append_right nlz]at hg;simp only[Nat.sub_self,List.getElem?_cons_zero,List.take_left,Bool.and_eq_true,decide_eq_true_eq]at hg;exact hg
theorem A9n(pre suf:List RW):A6s (pre++suf)=A6s pre++A6s suf:=by unfold A6s;rw[List.flatMap_append]
theorem C4p{l:List RW}(hg:∀k,k<l.length->A3m l k=true)(hl:(A6s l).length<=4096):∀r∈l,0<=r.pos/\r.pos<=4096:=by
 intro r hr;obtain⟨pre,suf,h⟩:=List.append_of_mem hr;have h1:=(B5w h (hg pre.length (by rw[h];simp))).2;rw[h,A9n,List.length_append]at hl;omega
theorem C8n{l:List RW}(hg:∀k,k<l.length->A3m l k=true)(hl:(A6s l).length<=4096)(hgo:A7e l=true):∀r∈l,A0g r.op=7->-32768<=r.a-r.pos/\r.a-r.pos<=32767:=by
 intro r hr h7;have h1:=C4p hg hl r hr;unfold A7e at hgo;have h2:=List.all_eq_true.1 hgo r hr;rw[h7]at h2;simp only[beq_self_eq_true,Bool.not_true,Bool.false_or]at h2;unfold thereB at h2
 obtain⟨s,hs,h3⟩:=List.any_eq_true.1 h2;have h4:=C4p hg hl s hs;have h5:s.pos=r.a:=by simpa using h3
 omega
theorem C9e(r:RW):A1h r 0=false:=by unfold A1h;simp
theorem D5r{l:List RW}(hl:(A6s l).length<=4096)(hw:∀r∈l,r.op<256)(hg:∀k,k<l.length->A3m l k=true)(hgo:A7e l=true):
  ∀(suf pre:List RW),l=pre++suf->∀fuel,suf.length<=fuel->B1v (A6s l) fuel (A6s pre).length pre=(0,l):=by
 intro suf
 induction suf with
 |nil=>
  intro pre h fuel _;rw[List.append_nil]at h;subst h;exact C3v _ _ _ _ nlz
 |cons r suf ih=>
  intro pre h fuel hf;obtain⟨fuel,rfl⟩:∃k,fuel=k+1:=⟨fuel-1,by simp at hf;omega⟩;have hr:r∈l:=by rw[h];simp
  obtain⟨h1,h2⟩:=B5w h (hg pre.length (by rw[h];simp))
  have h0:A0g r.op≠0:=fun h0=>by rw[h0,C9e]at h1;cases h1
  have hd:(A6s l).drop (A6s pre).length=A4h r++A6s suf:=by
   rw[h,A9n,List.drop_left];rfl
  obtain⟨q1,q2,q3⟩:=D7t (A6s l) r (A6s pre).length (A6s suf) (hw r hr) h2 h0 h1 (C8n hg hl hgo r hr) hd;have hlen:=congrArg List.length hd
  rw[List.length_drop,List.length_append,A5c r h0]at hlen;have hs:=B1j h0 (A4z r.op)
  rw[B7x _ _ _ _ (by omega) (by rw[q3];exact h0) (by rw[q3];omega) (by rw[q3];exact q2),q1,q3];have h3:=ih (pre++[r]) (by rw[h];simp) fuel (by simp at hf;omega)
  rw[A9n,List.length_append,show(A6s [r]).length=A0w (A0g r.op) by rw[<-A5c r h0];simp[A6s]]at h3;exact h3
theorem D5n(l:List RW):l.length<=(A6s l).length:=by
 induction l with
 |nil=>exact Nat.zero_le _
 |cons r l ih=>
  rw[show A6s (r::l)=A4h r++A6s l from rfl,List.length_append];have:1<=(A4h r).length:=by unfold A4h;simp
  simp only[List.length_cons];omega
theorem B5e{l:List RW}{bs:List UInt8}(hw:∀r∈l,r.op<256)(h:A1t l=(0,bs)):bs=A6s l/\A2h bs=(0,l):=by
 unfold A1t at h;by_cases h1:(List.range l.length).all (A3m l)=false
 ·rw[if_pos h1]at h;cases h
 rw[if_neg h1]at h;by_cases h2:A7e l=false
 ·rw[if_pos h2]at h;cases h
 rw[if_neg h2]at h;by_cases h3:4096<(A6s l).length
 ·rw[if_pos h3]at h;cases h
 rw[if_neg h3]at h
 cases h
 have hgo:A7e l=true:=by simpa using h2
 have hg:∀k,k<l.length->A3m l k=true:=by
  have h4:(List.range l.length).all (A3m l)=true:=by simpa using h1
  intro k hk;exact List.all_eq_true.1 h4 k (List.mem_range.2 hk)
 refine⟨rfl,B8t h3 ?_ hgo⟩;have h5:=D5n l;exact D5r (by omega) hw hg hgo l [] rfl _ (by omega)
end
end Go.Proofs.YtclpkipaehpkdaaGreatDoor
