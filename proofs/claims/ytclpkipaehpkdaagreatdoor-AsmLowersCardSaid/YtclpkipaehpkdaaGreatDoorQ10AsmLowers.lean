/- asm -/
import Derived.Test.YtclpkipaehpkdaaGreatDoorQ06AsmLowers
import Derived.Laws.StructEq
set_option linter.unusedVariables false
set_option linter.unusedSimpArgs false
set_option maxRecDepth 100000
set_option maxHeartbeats 64000000
namespace Go.Proofs.YtclpkipaehpkdaaGreatDoor
section
open Go.ChangeShapes Go.WideShapes Go.ChangeAt Go.RowKit
def A4a(w:World)(B:Nat)(v:Value)(m:Nat)(bs:List UInt8):Prop:=w.ownsRow B 5 1 v m (bs.map A5q)\/∃g C,v= .slice (some ⟨g,0,none⟩) m m/\w.heap[g]? =some (.cells C 5 (0,0))/\Sl A5q w (some ⟨g,0,none⟩) m bs
theorem A4a.sl{w:World}{B:Nat}{v:Value}{m:Nat}{bs:List UInt8}(h:A4a w B v m bs):∃a c,v= .slice a m c/\Sl A5q w a m bs/\m<=c:=by
 rcases h with h|⟨g,C,rfl,_,h⟩
 ·obtain⟨a,c,rfl,hs,hc⟩:=Sl.ofOwn h;exact⟨a,c,rfl,hs,hc⟩
 exact⟨_,m,rfl,h,Nat.le_refl _⟩
theorem A4a.below{w w':World}{B:Nat}{v:Value}{m:Nat}{bs:List UInt8}(h:A4a w B v m bs)(hb:Below w.heap.size w w'):A4a w' B v m bs:=by
 rcases h with h|⟨g,C,rfl,hg,h⟩
 ·exact .inl (A1p h hb)
 exact .inr ⟨g,C,rfl,by rw[hb.block g (Array.getElem?_eq_some_iff.1 hg).1];exact hg,h.below hb⟩
theorem A4a.clip{w w':World}{B B':Nat}{a:Option Addr}{c m:Nat}{bs:List UInt8}(h:w.ownsRow B 5 1 (.slice a (m+1) c) (m+1) (bs.map A5q))(hb:Below w.heap.size w w')(hs:Sl A5q w' a (m+1) bs):A4a w' B' (.slice a (m+1) (m+1)) (m+1) bs:=by
 rcases h.2 with⟨_,h1⟩|⟨g,cap,cur,hv,_,hc,_⟩
 ·omega
 cases hv
 exact .inr ⟨g,cur,rfl,by rw[hb.block g (Array.getElem?_eq_some_iff.1 hc).1];exact hc,hs⟩
def E1i(w w':World):Prop:=w.heap.size<=w'.heap.size/\∀(g:Nat) (cs:Array Value) (t:TypeId) (fr:Nat×Nat),w.heap[g]? =some (.cells cs t fr)->t≠5->w'.heap[g]? =some (.cells cs t fr)
theorem A6i{w:World}{ops:Array Oper}{rest:List Oper}{o:Oper}{a:Act}{Q:Exit->Act->World->Prop}(hgd:Region.wanted o (yielded ops a.tmps)=true)(s x:Operand)
  (ho:o.op= .call {callee:= .builtin .append,args:= #[s,x],argTypes:= #[43,43]})
  (B:Nat) (v:Value) (m:Nat) (bs:List UInt8) (hv:a.eval s=v) (hX:A4a w B v m bs)
  (C:Array Value) (k c sz:Nat) (hy:a.eval x= .slice (some ⟨sz,0,none⟩) k c) (hsz:w.heap.size=sz) (hC:C.size=k) (hone:C.toList.all (·.oneCell')=true) (hk:0<k) (hlen:m+k<=140737488355328) (hB:B<=w.heap.size)
  (h:∀v' w',w'.ownsRow B 5 1 v' (m+k) (bs.map A5q++C.toList)->E1i w w'->Below B w w'->wpList Tryz.prog ops Q rest (a.put o.dst v') w'):wpList Tryz.prog ops Q (o::rest) a (w.alloc (.cells C 5)):=by
 subst hsz
 rcases hX with hX|⟨gd,Cd,rfl,_,hX⟩
 ·refine A6h E3q hgd s x ho B v m _ hv hX C k c hy hC hone (by omega) (by unfold maxLen;omega) hB (fun v' w' h1 h2 h3=>h v' w' h1 ⟨?_,fun g cs t fr hg ht=> ?_⟩ h3)
  ·have h4:=h2.size;simp at h4;omega
  exact C0x hX h2 hg (Ne.symm ht)
 refine A7q (enc:=A5q) E3q hgd s x ho w.heap.size _ m m bs hv hX C k c hy hC hone (by omega) nlz (by omega) (by unfold maxLen;omega) nlz (fun v' w' h1 h3=>h v' w' (A2r h1 hB) ⟨h3.size,fun g cs t fr hg ht=> ?_⟩ (h3.mono hB))
 rw[h3.block g (Array.getElem?_eq_some_iff.1 hg).1];exact hg
theorem B2h(l:List RW)(j:Nat)(r:RW)(h:l[j]? =some r):A6s (l.take (j+1))=A6s (l.take j)++A4m r:=by
 obtain⟨hj,he⟩:=gsz h;unfold A6s;rw[List.take_succ_eq_append_getElem hj,List.flatMap_append,he];simp
theorem B4x(l:List RW)(j:Nat)(r:RW)(h:l[j]? =some r):A3q l j=(A2n r (A0q r.op)&&decide (r.pos=((A6s (l.take j)).length:Nat))):=by
 unfold A3q;rw[h]
theorem B8t{l:List RW}(h:∀k,k<l.length->A3q l k=true):(List.range l.length).all (A3q l)=true:=by
 rw[List.all_eq_true];intro k hk;exact h k (by simpa using hk)
theorem C8k{l:List RW}(j:Nat)(hj:j<l.length)(h:A3q l j=false):A2f l=(8,[]):=by
 unfold A2f
 have:(List.range l.length).all (A3q l)=false:=by
  rw[List.all_eq_false];exact⟨j,by simpa using hj,by simp[h]⟩
 rw[if_pos this]
theorem C1h{l:List RW}(h:∀k,k<l.length->A3q l k=true)(hg:A7b l=false):A2f l=(2,[]):=by
 unfold A2f;rw[if_neg (by rw[B8t h];decide),if_pos hg]
theorem C5g{l:List RW}(h:∀k,k<l.length->A3q l k=true)(hg:A7b l=true)(hl:4096<(A6s l).length):A2f l=(9,[]):=by
 unfold A2f;rw[if_neg (by rw[B8t h];decide),if_neg (by rw[hg];decide),if_pos hl]
theorem B9x{l:List RW}(h:∀k,k<l.length->A3q l k=true)(hg:A7b l=true)(hl:¬4096<(A6s l).length):A2f l=(0,A6s l):=by
 unfold A2f;rw[if_neg (by rw[B8t h];decide),if_neg (by rw[hg];decide),if_neg hl]
theorem E4j(p:Int)(o:Nat)(x y:Int)(h:A0q o=7):A4m ⟨p,o,x,y⟩=[UInt8.ofNat o]++A6c (A5z (x-p)) 2:=by unfold A4m;simp[h]
theorem E4g(p:Int)(o:Nat)(x y:Int)(h:A0q o=8):A4m ⟨p,o,x,y⟩=[UInt8.ofNat o]++A6c (A5z x) 1++A6c (A5z y) 1:=by unfold A4m;simp[h]
theorem E4i(p:Int)(o:Nat)(x y:Int)(h7:A0q o≠7)(h8:A0q o≠8):A4m ⟨p,o,x,y⟩=[UInt8.ofNat o]++A6c (A5z x) (A1r (A0q o) -1):=by unfold A4m;simp[h7,h8]
def A6k(R:Int×List UInt8)(w:World)(e:Ending)(w':World):Prop:=
 ∃a m c,e= .returned (.tuple #[.slice a m c,.int .i64 R.1])/\Sl A5q w' a m R.2/\m<=c/\Below w.heap.size w w'/\A4a w' w.heap.size (.slice a m c) m R.2
theorem A6k.err{R:Int×List UInt8}{w w':World}{e:Int}(h:R=(e,[]))(hb:Below w.heap.size w w'):A6k R w (.returned (.tuple #[.slice none 0 0,.int .i64 e])) w':=by
 subst h;exact⟨_,0,0,rfl,Sl.nil _ _,Nat.le_refl _,hb,.inl (World.ownsRow_nil _ _ _ _)⟩
theorem D6k(o:Nat)(h:o<256):Value.int .u8 (o:Nat)=A5q (UInt8.ofNat o):=by unfold A5q;rw[UInt8.toNat_ofNat_of_lt' h]
theorem C4c(w:World)(a:Option Addr)(n cap:Nat)(L:List RW)(hs:Rs w a n L)(hn:n<=65536)(hw:∀r∈L,A4p r.pos/\A4p r.a/\r.op<256):Calls Tryz.prog 123 #[.slice a n cap] w (A6k (A2f L) w):=by
 have HS:=hzz hs;have HLn:=hzz hs.1;have HW:=hzz hw;obtain⟨R,hR⟩:=exz (A2f L);rw[<-hR];have HR:=hzz hR
 have HGS:=hzz (fun w' (hb:Below w.heap.size w w')=>C6g w' a n cap L (hs.below hb) hn hw);clear hs hR hw;have hz:=D9n;go_enter Tryz.func123,Tryz.ntmps123
 go_wp2_with fail
 refine(B5j _).mono ?_;rintro e w1 ⟨rfl,hb1⟩;have HB1:=hzz hb1;clear hb1
 go_wp2_with (first
  |(refine A9e rfl _ _ _ rfl _ rfl rfl _ _ (by rw[A3p];exact B1j) (by simp[A3p,zs8]) (B8w _) ?_))
 clear hz;have HT1:=hzz (heap_alloc_last w1 (.cells (A9h A0q) 164));have HB2:=hzz (HB1.out.alloc HB1.out.size (.cells (A9h A0q) 164));generalize w1.alloc _=w2 at*
 generalize hgt:w1.heap.size=gt at*;clear hgt HB1
 go_loopg [12,5] n (fun gn i v wr=>∃j m:Nat,j<=n/\gn=n-j/\i= .int .i64 j/\m<=3*j/\Hid ((A6s (L.take j)).length=m)/\Hid (A4a wr w.heap.size v m (A6s (L.take j)))/\Hid (∀k,k<j->A3q L k=true)/\
  Hid (wr.heap[gt]? =some (.cells (A9h A0q) 164))/\Hid (Below w.heap.size w wr))
 case atStart=>exact⟨0,0,by omega,by omega,by go_num,by omega,hzz rfl,hzz (.inl (World.ownsRow_nil _ _ _ _)),hzz (fun k h=>by omega),HT1,HB2⟩
 obtain⟨j,m,hj,rfl,rfl,hm,HM,HO,HG,HT,HB⟩:=hrel;by_cases hlt:j<n
 ·obtain⟨b,off,r,rfl,_,hr,q⟩:=(HS.out.below HB.out).at j hlt;obtain⟨q0,q1,q2,q3⟩:=q;have hjl:j<L.length:=by rw[HLn.out];exact hlt
  have hwr:=HW.out r (List.mem_of_getElem? hr);have HGA:=hzz (B4x L j r hr);have HEN:=hzz (B2h L j r hr);have HBD:=hzz (C8k (l:=L) j hjl);obtain⟨p,o,x,y⟩:=r
  simp only at q0 q1 q2 q3 hwr HGA;rw[HM.out]at HGA;obtain⟨hp,hx,ho⟩:=hwr;have o1:(o:Int)<256:=by omega
  have j1:(j:Int)<n:=by omega
  have hf9:=A3s o;have HFI:=hzz (fun w'=>D5v w' ⟨p,o,x,y⟩ (A0q o) hf9);have HSZ:=hzz (fun(w':World)=>A5h w' (A0q o) hf9)
  have hgl:gt<wr.heap.size:=(Array.getElem?_eq_some_iff.1 HT.out).1;have tc:wr.cell? ⟨gt,o,none⟩=some (.int .u8 (A0q o:Nat)):=by rw[cell_of_row wr _ _ _ _ _ HT.out];exact B1f _ _ ho
  have HE7:=hzz (E4j p o x y);have HE8:=hzz (E4g p o x y);have HEE:=hzz (E4i p o x y);have hs3:=B1q (A0q o);have HF0:=hzz (show A2n ⟨p,o,x,y⟩ 0=false from by unfold A2n;simp)
  have hsp:=fun h0=>A8e (f:=A0q o) h0 hf9
  obtain⟨e,he⟩:=exz (A6s (L.take j))
  have HGN:=hzz (show A3q L j=true->∀k,k<j+1->A3q L k=true from fun h k hk=>by
   rcases Nat.lt_or_ge k j with h1|h1
   ·exact HG.out k h1
   obtain rfl:k=j:=by omega
   exact h)
  rw[<-he]at HM HO HEN;clear hr hjl he HG;have HPF:=hzz (show A0q o=0->A2n ⟨p,o,x,y⟩ (A0q o)=false from fun h=>by rw[h];exact HF0.out);generalize hft:A2n ⟨p,o,x,y⟩ (A0q o)=ft at*
  clear hft;generalize A0q o=f at*;generalize A1r f=s at*;simp only at HFI
  go_upto_region 6 with fail
  have HAL:=hzz (HB.out.alloc HB.out.size (.cells #[.int .i64 p,.int .u8 (o:Nat),.int .i64 x,.int .i64 y] 118))
  have HOA:=hzz (HO.out.below ((Below.refl wr.heap.size wr).alloc nlz (.cells #[.int .i64 p,.int .u8 (o:Nat),.int .i64 x,.int .i64 y] 118)))
  have HTA:=hzz (show(wr.alloc (.cells #[.int .i64 p,.int .u8 (o:Nat),.int .i64 x,.int .i64 y] 118)).heap[gt]? =some (.cells (A9h A0q) 164) by rw[Below.heap_alloc _ _ _ hgl];exact HT.out)
  have HKA:=hzz (show A8d (wr.alloc (.cells #[.int .i64 p,.int .u8 (o:Nat),.int .i64 x,.int .i64 y] 118)) wr.heap.size p o x y from heap_alloc_last wr _)
  have tcA:=A0e ((Below.refl wr.heap.size wr).alloc nlz (.cells #[.int .i64 p,.int .u8 (o:Nat),.int .i64 x,.int .i64 y] 118)) tc;clear tc q0 q1 q2 q3;generalize wr.alloc _=W at*
  generalize hg0:wr.heap.size=g at*;clear hg0 hgl HT HB HO;obtain⟨⟨c0,c1,c2,c3⟩,_,hgW⟩:=HKA.out.box;have hgtW:gt<W.heap.size:=(Array.getElem?_eq_some_iff.1 HTA.out).1
  go_wp2_with fail
  refine(HFI.out _).mono ?_;rintro e' w5 ⟨rfl,hb5⟩;have HB5:=btz HAL hb5;have HO5:=hzz (HOA.out.below hb5)
  have HT5:=hzz (show w5.heap[gt]? =some (.cells (A9h A0q) 164) by rw[hb5.block gt hgtW];exact HTA.out);have HK5:=hzz (HKA.out.below hb5);clear hb5 c0 c1 c2 c3 tcA
  obtain⟨⟨c0,c1,c2,c3⟩,_,hgW5⟩:=HK5.out.box
  cases ft
  ·have HQ:=hzz (show R=(8,[]) by rw[HR.out];exact HBD.out (by rw[HGA.out];rfl));clear HBD HGA HPF
   go_wp2_with fail
   go_ret2;exact A6k.err HQ.out HB5.out
  have h0:f≠0:=fun h=>by have:=HPF.out h;cases this
  have hs1:=hsp h0;clear h0 hsp HPF;obtain⟨ov,oc,rfl,_,_⟩:=HO5.out.sl;by_cases hpm:p=m
  case' neg=>
   have HQ:=hzz (show R=(8,[]) by rw[HR.out];exact HBD.out (by rw[HGA.out];simp[hpm]));have epm:(p !=(m:Int))=true:=by simp[hpm]
   clear HBD HGA hpm
   go_wp2_with fail
   go_ret2;exact A6k.err HQ.out HB5.out
  have epm:(p !=(m:Int))=false:=by simp[hpm]
  have HGX:=hzz (HGN.out (by rw[HGA.out];simp[hpm]));have HPM:=hzz hpm;obtain⟨ux,hux⟩:∃u,u=A5z x:=⟨_,rfl⟩;obtain⟨uy,huy⟩:∃u,u=A5z y:=⟨_,rfl⟩
  obtain⟨ud,hud⟩:∃u,u=A5z (x-p):=⟨_,rfl⟩;have wx:IntKind.u64.wrap x=(ux:Int):=by rw[hux];exact B1r x
  have wy:IntKind.u64.wrap y=(uy:Int):=by rw[huy];exact B1r y
  have wp:IntKind.u64.wrap p=(m:Int):=by rw[hpm,IntKind.wrap_u64];omega
  have wd:IntKind.u64.wrap ((ux:Int) -(m:Int))=(ud:Int):=by
   rw[hud,<-B1r,<-hpm,hux,<-B1r];simp only[IntKind.wrap_u64];omega
  have HLX:=hzz (show ux<18446744073709551616 by rw[hux];exact C2p _);have HLY:=hzz (show uy<18446744073709551616 by rw[huy];exact C2p _)
  have HLD:=hzz (show ud<18446744073709551616 by rw[hud];exact C2p _);rw[<-hux,<-huy]at HE8;rw[<-hux]at HEE;rw[<-hud]at HE7;have m6:m<=196608:=by omega
  have HEB:=hzz (D6k o ho);clear hpm hux huy hud HBD HGA HGN
  have HFIN:=hzz (show ∀(u:World) (t:List UInt8) v,Hid (A4m ⟨p,o,x,y⟩=t)->A4a u w.heap.size v (m+t.length) (e++t)->u.heap[gt]? =some (.cells (A9h A0q) 164)->Below w.heap.size w u->t.length<=3->
    (∃m':Nat,m'<=3*(j+1)/\Hid ((A6s (L.take (j+1))).length=m')/\Hid (A4a u w.heap.size v m' (A6s (L.take (j+1))))/\Hid (∀k,k<j+1->A3q L k=true)/\Hid (u.heap[gt]? =some (.cells (A9h A0q) 164))/\Hid (Below w.heap.size w u))from fun u t v ht hO hT hB hl=>
   ⟨m+t.length,by omega,hzz (by rw[HEN.out,List.length_append,HM.out,ht.out]),hzz (by rw[HEN.out,ht.out];exact hO),HGX,hzz hT,hzz hB⟩)
  by_cases h7:f=7
  ·subst h7;clear HE8 HEE HSZ
   go_wp2_with (at_builtin;first
    |(refine A6i rfl _ _ rfl w.heap.size _ m e rfl HO5.out _ 1 _ _ rfl rfl rfl rfl (by omega) (by omega) HB5.out.size ?_;intro v6 w6 hown6 hk6 hb6;have hq:w6.ownsRow w.heap.size 5 1 v6 (m+1) ((e++[UInt8.ofNat o]).map A5q):=(by rw[List.map_append,List.map_cons,<-HEB.out];exact hown6);obtain⟨a6,c6,rfl,hs6,hc6⟩:=Sl.ofOwn hq;have HO6:=hzz hq;have HS6:=hzz hs6;have HB6:=hzz (HB5.out.trans hb6);have HT6:=hzz (hk6.2 _ _ _ _ HT5.out (by decide));have HK6:=hzz (show A8d w6 g p o x y from hk6.2 _ _ _ _ HK5.out (by decide));clear hown6 hk6 hb6 hs6 hq c0 c1 c2 c3;obtain⟨⟨c0,c1,c2,c3⟩,_,hgW6⟩:=HK6.out.box))
   refine(B5b _ a6 (m+1) c6 (e++[UInt8.ofNat o]) ud 2 HS6.out (by omega) hc6 HLD.out (by decide) (by decide)).mono ?_;rintro e' w7 ⟨v7,m7,rfl,ho7,hb7⟩
   obtain rfl:m7=m+1+2:=by have h1:=ho7.1;have h2:=HS6.out.1;rw[List.length_map,List.length_append,A1t,h2]at h1;omega
   have HT7:=hzz (show w7.heap[gt]? =some (.cells (A9h A0q) 164) by rw[hb7.block gt (Array.getElem?_eq_some_iff.1 HT6.out).1];exact HT6.out);have HO7:=hzz (A2r ho7 HB6.out.size)
   have HB7:=btz HB6 hb7;clear ho7 hb7 c0 c1 c2 c3
   go_wp2_with fail
   go_roundg (n-(j+1))
   case measure=>omega
   obtain⟨m',h1,h2,h3,h4,h5,h6⟩:=HFIN.out _ ([UInt8.ofNat o]++A6c ud 2) _ (hzz (HE7.out (by trivial))) (.inl (by rw[show m+([UInt8.ofNat o]++A6c ud 2).length=m+1+2 by simp[A1t]<;>omega,<-List.append_assoc];exact HO7.out)) HT7.out HB7.out (by simp[A1t])
   exact⟨j+1,m',by omega,rfl,by go_num,h1,h2,h3,h4,h5,h6⟩
  by_cases h8:f=8
  ·subst h8;clear HE7 HEE HSZ h7
   go_wp2_with (at_builtin;first
    |(refine A6i rfl _ _ rfl w.heap.size _ m e rfl HO5.out _ 1 _ _ rfl rfl rfl rfl (by omega) (by omega) HB5.out.size ?_;intro v6 w6 hown6 hk6 hb6;have hq:w6.ownsRow w.heap.size 5 1 v6 (m+1) ((e++[UInt8.ofNat o]).map A5q):=(by rw[List.map_append,List.map_cons,<-HEB.out];exact hown6);obtain⟨a6,c6,rfl,hs6,hc6⟩:=Sl.ofOwn hq;have HO6:=hzz hq;have HS6:=hzz hs6;have HB6:=hzz (HB5.out.trans hb6);have HT6:=hzz (hk6.2 _ _ _ _ HT5.out (by decide));have HK6:=hzz (show A8d w6 g p o x y from hk6.2 _ _ _ _ HK5.out (by decide));clear hown6 hk6 hb6 hs6 hq c0 c1 c2 c3;obtain⟨⟨c0,c1,c2,c3⟩,_,hgW6⟩:=HK6.out.box))
   have ld2:=fun w' (h:Below w6.heap.size w6 w')=>A0e h c2
   have ld3:=fun w' (h:Below w6.heap.size w6 w')=>A0e h c3
   have hSw:Below w6.heap.size w6 w6.drew:=brz.drew;clear c0 c1 c2 c3
   refine A4e (Below w6.heap.size w6) [(0,true),(1,true),(2,true),(3,true),(5,true),(6,true),(7,true),(4,false),(8,false),(9,true)] (by kernel_rfl) (by kernel_rfl) (fun c a d v w h=>by cases d<;>exact h) ?_
   iterate 7
    refine A1m fun K hK=>tkF ?_
    go_simp
    try go_bits
    refine hK _ _ ?_;clear hK K
   refine A1m fun K hK=>alF ?_
   go_step;refine(B5b _ a6 (m+1) c6 (e++[UInt8.ofNat o]) ux 1 (HS6.out.below brz.drew) (by omega) hc6 HLX.out (by decide) (by decide)).mono ?_;rintro e' w7 ⟨v7,m7,rfl,ho7,hb7⟩
   replace hSw:Below w6.heap.size w6 w7:=hSw.trans (hb7.mono (by simp))
   obtain rfl:m7=m+1+1:=by have h1:=ho7.1;have h2:=HS6.out.1;rw[List.length_map,List.length_append,A1t,h2]at h1;omega
   obtain⟨a7,c7,rfl,hs7,hc7⟩:=Sl.ofOwn ho7;have HS7:=hzz hs7;clear ho7 hb7 hs7;go_simp;refine hK _ _ ?_;clear hK K;refine A1m fun K hK=>alF ?_
   go_step;refine(B5b _ a7 (m+1+1) c7 _ uy 1 HS7.out (by omega) hc7 HLY.out (by decide) (by decide)).mono ?_;rintro e' w8 ⟨v8,m8,rfl,ho8,hb8⟩
   obtain rfl:m8=m+1+1+1:=by have h1:=ho8.1;have h2:=HS7.out.1;rw[List.length_map,List.length_append,A1t,h2]at h1;omega
   have HO8:=hzz (A2r ho8 (Nat.le_trans HB6.out.size hSw.size));replace hSw:Below w6.heap.size w6 w8:=hSw.trans (hb8.mono hSw.size);have HB8:=btz HB6 hSw
   have HT8:=hzz (show w8.heap[gt]? =some (.cells (A9h A0q) 164) by rw[hSw.block gt (Array.getElem?_eq_some_iff.1 HT6.out).1];exact HT6.out);clear ho8 hb8;go_simp;refine hK _ _ ?_;clear hK K
   iterate 1
    refine A1m fun K hK=>tkF ?_
    go_simp
    try go_bits
    refine hK _ _ ?_;clear hK K
   refine B0a ?_;clear ld2 ld3 hSw
   go_wp2_with fail
   go_roundg (n-(j+1))
   case measure=>omega
   obtain⟨m',h1,h2,h3,h4,h5,h6⟩:=HFIN.out _ ([UInt8.ofNat o]++A6c ux 1++A6c uy 1) _ (hzz (HE8.out (by trivial))) (.inl (by rw[show m+([UInt8.ofNat o]++A6c ux 1++A6c uy 1).length=m+1+1+1 by simp[A1t],<-List.append_assoc,<-List.append_assoc];exact HO8.out)) HT8.out HB8.out (by simp[A1t])
   exact⟨j+1,m',by omega,rfl,by go_num,h1,h2,h3,h4,h5,h6⟩
  have e7:((f:Int)==7)=false:=by simp;omega
  have e8:((f:Int)==8)=false:=by simp;omega
  replace h7:=hzz h7;replace h8:=hzz h8;clear HE7 HE8;have hs123:s=1\/s=2\/s=3:=by omega
  rcases hs123 with rfl|rfl|rfl
  ·go_wp2_with (at_builtin;first
    |(refine A6i rfl _ _ rfl w.heap.size _ m e rfl HO5.out _ 1 _ _ rfl rfl rfl rfl (by omega) (by omega) HB5.out.size ?_;intro v6 w6 hown6 hk6 hb6;have hq:w6.ownsRow w.heap.size 5 1 v6 (m+1) ((e++[UInt8.ofNat o]).map A5q):=(by rw[List.map_append,List.map_cons,<-HEB.out];exact hown6);obtain⟨a6,c6,rfl,hs6,hc6⟩:=Sl.ofOwn hq;have HO6:=hzz hq;have HS6:=hzz hs6;have HB6:=hzz (HB5.out.trans hb6);have HT6:=hzz (hk6.2 _ _ _ _ HT5.out (by decide));have HK6:=hzz (show A8d w6 g p o x y from hk6.2 _ _ _ _ HK5.out (by decide));clear hown6 hk6 hb6 hs6 hq c0 c1 c2 c3;obtain⟨⟨c0,c1,c2,c3⟩,_,hgW6⟩:=HK6.out.box))
   have ld2:=fun w' (h:Below w6.heap.size w6 w')=>A0e h c2
   have ld3:=fun w' (h:Below w6.heap.size w6 w')=>A0e h c3
   have hSw:Below w6.heap.size w6 w6.drew:=brz.drew;clear c0 c1 c2 c3
   refine A4e (Below w6.heap.size w6) [(0,true),(1,true),(2,true),(3,true),(4,true),(5,false),(6,true),(7,false),(8,true)] (by kernel_rfl) (by kernel_rfl) (fun c a d v w h=>by cases d<;>exact h) ?_
   iterate 5
    refine A1m fun K hK=>tkF ?_
    go_simp
    try go_bits
    refine hK _ _ ?_;clear hK K
   refine A1m fun K hK=>alF ?_
   go_step;refine(HSZ.out _).mono ?_;rintro e' w' ⟨rfl,rfl⟩;go_simp;refine hK _ _ ?_;clear hK K
   iterate 1
    refine A1m fun K hK=>tkF ?_
    go_simp
    try go_bits
    refine hK _ _ ?_;clear hK K
   refine A1m fun K hK=>alF ?_
   go_step;refine(E0c _ a6 (m+1) c6 ux 0 hc6 (by decide)).mono ?_;rintro e' w7 ⟨rfl,rfl⟩;go_simp;refine hK _ _ ?_;clear hK K
   iterate 1
    refine A1m fun K hK=>tkF ?_
    go_simp
    try go_bits
    refine hK _ _ ?_;clear hK K
   refine B0a ?_;have HB7:=btz HB6 hSw;have HT7:=hzz (show w6.drew.heap[gt]? =some (.cells (A9h A0q) 164)from HT6.out);have HS7:=hzz (HS6.out.below hSw);have HSW7:=hzz hSw;clear ld2 ld3 hSw
   go_wp2_with fail
   go_roundg (n-(j+1))
   case measure=>omega
   case rel=>
    obtain⟨m',h1,h2,h3,h4,h5,h6⟩:=HFIN.out _ ([UInt8.ofNat o]++A6c ux (1-1)) _ (hzz (HEE.out h7.out h8.out)) (A4a.clip HO6.out HSW7.out HS7.out) HT7.out HB7.out (by simp[A1t])
    exact⟨j+1,m',by omega,rfl,by go_num,h1,h2,h3,h4,h5,h6⟩
  ·go_wp2_with (at_builtin;first
    |(refine A6i rfl _ _ rfl w.heap.size _ m e rfl HO5.out _ 1 _ _ rfl rfl rfl rfl (by omega) (by omega) HB5.out.size ?_;intro v6 w6 hown6 hk6 hb6;have hq:w6.ownsRow w.heap.size 5 1 v6 (m+1) ((e++[UInt8.ofNat o]).map A5q):=(by rw[List.map_append,List.map_cons,<-HEB.out];exact hown6);obtain⟨a6,c6,rfl,hs6,hc6⟩:=Sl.ofOwn hq;have HO6:=hzz hq;have HS6:=hzz hs6;have HB6:=hzz (HB5.out.trans hb6);have HT6:=hzz (hk6.2 _ _ _ _ HT5.out (by decide));have HK6:=hzz (show A8d w6 g p o x y from hk6.2 _ _ _ _ HK5.out (by decide));clear hown6 hk6 hb6 hs6 hq c0 c1 c2 c3;obtain⟨⟨c0,c1,c2,c3⟩,_,hgW6⟩:=HK6.out.box))
   have ld2:=fun w' (h:Below w6.heap.size w6 w')=>A0e h c2
   have ld3:=fun w' (h:Below w6.heap.size w6 w')=>A0e h c3
   have hSw:Below w6.heap.size w6 w6.drew:=brz.drew;clear c0 c1 c2 c3
   refine A4e (Below w6.heap.size w6) [(0,true),(1,true),(2,true),(3,true),(4,true),(5,false),(6,true),(7,false),(8,true)] (by kernel_rfl) (by kernel_rfl) (fun c a d v w h=>by cases d<;>exact h) ?_
   iterate 5
    refine A1m fun K hK=>tkF ?_
    go_simp
    try go_bits
    refine hK _ _ ?_;clear hK K
   refine A1m fun K hK=>alF ?_
   go_step;refine(HSZ.out _).mono ?_;rintro e' w' ⟨rfl,rfl⟩;go_simp;refine hK _ _ ?_;clear hK K
   iterate 1
    refine A1m fun K hK=>tkF ?_
    go_simp
    try go_bits
    refine hK _ _ ?_;clear hK K
   refine A1m fun K hK=>alF ?_
   go_step;refine(B5b _ a6 (m+1) c6 (e++[UInt8.ofNat o]) ux 1 (HS6.out.below brz.drew) (by omega) hc6 HLX.out (by decide) (by decide)).mono ?_;rintro e' w7 ⟨v7,m7,rfl,ho7,hb7⟩
   replace hSw:Below w6.heap.size w6 w7:=hSw.trans (hb7.mono (by simp))
   obtain rfl:m7=m+1+1:=by have h1:=ho7.1;have h2:=HS6.out.1;rw[List.length_map,List.length_append,A1t,h2]at h1;omega
   have HO7:=hzz (A2r ho7 HB6.out.size);have HB7:=btz HB6 hSw
   have HT7:=hzz (show w7.heap[gt]? =some (.cells (A9h A0q) 164) by rw[hSw.block gt (Array.getElem?_eq_some_iff.1 HT6.out).1];exact HT6.out);clear ho7 hb7;go_simp;refine hK _ _ ?_;clear hK K
   iterate 1
    refine A1m fun K hK=>tkF ?_
    go_simp
    try go_bits
    refine hK _ _ ?_;clear hK K
   refine B0a ?_;clear ld2 ld3 hSw
   go_wp2_with fail
   go_roundg (n-(j+1))
   case measure=>omega
   case rel=>
    obtain⟨m',h1,h2,h3,h4,h5,h6⟩:=HFIN.out _ ([UInt8.ofNat o]++A6c ux (2-1)) _ (hzz (HEE.out h7.out h8.out)) (.inl (by rw[show m+([UInt8.ofNat o]++A6c ux (2-1)).length=m+1+1 by simp[A1t]<;>omega,<-List.append_assoc];exact HO7.out)) HT7.out HB7.out (by simp[A1t])
    exact⟨j+1,m',by omega,rfl,by go_num,h1,h2,h3,h4,h5,h6⟩
  go_wp2_with (at_builtin;first
   |(refine A6i rfl _ _ rfl w.heap.size _ m e rfl HO5.out _ 1 _ _ rfl rfl rfl rfl (by omega) (by omega) HB5.out.size ?_;intro v6 w6 hown6 hk6 hb6;have hq:w6.ownsRow w.heap.size 5 1 v6 (m+1) ((e++[UInt8.ofNat o]).map A5q):=(by rw[List.map_append,List.map_cons,<-HEB.out];exact hown6);obtain⟨a6,c6,rfl,hs6,hc6⟩:=Sl.ofOwn hq;have HO6:=hzz hq;have HS6:=hzz hs6;have HB6:=hzz (HB5.out.trans hb6);have HT6:=hzz (hk6.2 _ _ _ _ HT5.out (by decide));have HK6:=hzz (show A8d w6 g p o x y from hk6.2 _ _ _ _ HK5.out (by decide));clear hown6 hk6 hb6 hs6 hq c0 c1 c2 c3;obtain⟨⟨c0,c1,c2,c3⟩,_,hgW6⟩:=HK6.out.box))
  have ld2:=fun w' (h:Below w6.heap.size w6 w')=>A0e h c2
  have ld3:=fun w' (h:Below w6.heap.size w6 w')=>A0e h c3
  have hSw:Below w6.heap.size w6 w6.drew:=brz.drew;clear c0 c1 c2 c3
  refine A4e (Below w6.heap.size w6) [(0,true),(1,true),(2,true),(3,true),(4,true),(5,false),(6,true),(7,false),(8,true)] (by kernel_rfl) (by kernel_rfl) (fun c a d v w h=>by cases d<;>exact h) ?_
  iterate 5
   refine A1m fun K hK=>tkF ?_
   go_simp
   try go_bits
   refine hK _ _ ?_;clear hK K
  refine A1m fun K hK=>alF ?_
  go_step;refine(HSZ.out _).mono ?_;rintro e' w' ⟨rfl,rfl⟩;go_simp;refine hK _ _ ?_;clear hK K
  iterate 1
   refine A1m fun K hK=>tkF ?_
   go_simp
   try go_bits
   refine hK _ _ ?_;clear hK K
  refine A1m fun K hK=>alF ?_
  go_step;refine(B5b _ a6 (m+1) c6 (e++[UInt8.ofNat o]) ux 2 (HS6.out.below brz.drew) (by omega) hc6 HLX.out (by decide) (by decide)).mono ?_;rintro e' w7 ⟨v7,m7,rfl,ho7,hb7⟩
  replace hSw:Below w6.heap.size w6 w7:=hSw.trans (hb7.mono (by simp))
  obtain rfl:m7=m+1+2:=by have h1:=ho7.1;have h2:=HS6.out.1;rw[List.length_map,List.length_append,A1t,h2]at h1;omega
  have HO7:=hzz (A2r ho7 HB6.out.size);have HB7:=btz HB6 hSw
  have HT7:=hzz (show w7.heap[gt]? =some (.cells (A9h A0q) 164) by rw[hSw.block gt (Array.getElem?_eq_some_iff.1 HT6.out).1];exact HT6.out);clear ho7 hb7;go_simp;refine hK _ _ ?_;clear hK K
  iterate 1
   refine A1m fun K hK=>tkF ?_
   go_simp
   try go_bits
   refine hK _ _ ?_;clear hK K
  refine B0a ?_;clear ld2 ld3 hSw
  go_wp2_with fail
  go_roundg (n-(j+1))
  case measure=>omega
  obtain⟨m',h1,h2,h3,h4,h5,h6⟩:=HFIN.out _ ([UInt8.ofNat o]++A6c ux (3-1)) _ (hzz (HEE.out h7.out h8.out)) (.inl (by rw[show m+([UInt8.ofNat o]++A6c ux (3-1)).length=m+1+2 by simp[A1t]<;>omega,<-List.append_assoc];exact HO7.out)) HT7.out HB7.out (by simp[A1t])
  exact⟨j+1,m',by omega,rfl,by go_num,h1,h2,h3,h4,h5,h6⟩
 obtain rfl:j=n:=by omega
 have HLE:=hzz (show A6s (L.take j)=A6s L by rw[List.take_of_length_le (by rw[HLn.out];exact Nat.le_refl _)]);have HGA:=hzz (show ∀k,k<L.length->A3q L k=true by rw[HLn.out];exact HG.out)
 rw[HLE.out]at HO HM;have hgt:gt<wr.heap.size:=(Array.getElem?_eq_some_iff.1 HT.out).1
 go_wp2_with (first
  |(refine wpList_load_row rfl _ _ rfl _ rfl _ _ _ _ HT.out Tryz.underlying164 rfl (by rw[A3p];exact B1j) ?_))
 refine(HGS.out _ HB.out).mono ?_;rintro e w3 ⟨rfl,hb3⟩;have HB3:=btz HB hb3;have HOO:=HO.out.below hb3;obtain⟨va,vc,rfl,hss,hcc⟩:=HOO.sl;have HO3:=hzz HOO;have HS3:=hzz hss
 clear hb3 hgt hss HOO
 cases hg:A7b L
 ·have HQ:=hzz (show R=(2,[]) by rw[HR.out];exact C1h HGA.out hg);clear hg
  go_wp2_with fail
  go_ret2;exact A6k.err HQ.out HB3.out
 have HGO:=hzz hg;clear hg;by_cases hl:4096<m
 ·have HQ:=hzz (show R=(9,[]) by rw[HR.out];exact C5g HGA.out HGO.out (by rw[HM.out];exact hl));have e1:decide ((4096:Int)<m)=true:=by simp;omega
  go_wp2_with fail
  go_ret2;exact A6k.err HQ.out HB3.out
 have HQ:=hzz (show R=(0,A6s L) by rw[HR.out];exact B9x HGA.out HGO.out (by rw[HM.out];exact hl));have e1:decide ((4096:Int)<m)=false:=by simp;omega
 go_wp2_with fail
 go_ret2;exact⟨va,m,vc,by rw[HQ.out];rfl,by rw[HQ.out];exact HS3.out,hcc,HB3.out,by rw[HQ.out];exact HO3.out⟩
theorem C7d(w:World)(k:Nat)(hk:k<256):Calls Tryz.prog 111 #[.int .u8 (k:Nat)] w fun e w'=>e= .returned (.int .i64 (A1r (A0q k):Nat))/\w=w':=by
 have HF:=hzz (A8x w k hk);have h9:=A3s k;generalize A0q k=f at*;have h:f=0\/f=1\/f=2\/f=3\/f=4\/f=5\/f=6\/f=7\/f=8\/f=9:=by omega
 clear h9
 rcases h with rfl|rfl|rfl|rfl|rfl|rfl|rfl|rfl|rfl|rfl
 all_goals
  go_enter Tryz.func111,Tryz.ntmps111
  go_wp2_with fail
  refine HF.out.mono ?_;rintro e w' ⟨rfl,rfl⟩
  go_wp2_with fail
  go_ret;exact⟨rfl,rfl⟩
theorem D1h{L:List RW}{r:RW}{p:Int}(hr:r∈L)(h:r.pos=p):thereB L p=true:=by
 unfold thereB;rw[List.any_eq_true];exact⟨r,hr,by simp[h]⟩
theorem D5g{L:List RW}{p:Int}(h:∀(k:Nat) r,L[k]? =some r->r.pos≠p):thereB L p=false:=by
 unfold thereB;rw[List.any_eq_false];intro r hr;obtain⟨k,hk,rfl⟩:=List.getElem_of_mem hr;simpa using h k _ (List.getElem?_eq_getElem hk)
theorem D4b(w:World)(a:Option Addr)(n cap:Nat)(L:List RW)(p:Int)(hs:Rs w a n L)(hn:n<=65536):Calls Tryz.prog 152 #[.slice a n cap,.int .i64 p] w (B0s (.bool (thereB L p)) w):=by
 have HS:=hzz hs;have HLn:=hzz hs.1;clear hs;go_enter Tryz.func152,Tryz.ntmps152
 go_wp2_with fail
 go_loopg [9] n (fun gn i wr=>∃j:Nat,j<=n/\gn=n-j/\i= .int .i64 j/\Hid (∀(k:Nat) r,k<j->L[k]? =some r->r.pos≠p)/\Hid (Below w.heap.size w wr))
 case atStart=>exact⟨0,by omega,by omega,by go_num,hzz (fun k r h=>by omega),hzz brz⟩
 obtain⟨j,hj,rfl,rfl,HG,HB⟩:=hrel;by_cases hlt:j<n
 ·obtain⟨b,off,r,rfl,_,hr,q⟩:=(HS.out.below HB.out).at j hlt;obtain⟨q0,q1,q2,q3⟩:=q;have HYE:=hzz (fun h=>D1h (p:=p) (List.mem_of_getElem? hr) h)
  have HNX:=hzz (show r.pos≠p->∀(k:Nat) r,k<j+1->L[k]? =some r->r.pos≠p from fun h k r' hk hr'=>by
   rcases Nat.lt_or_ge k j with h1|h1
   ·exact HG.out k r' h1 hr'
   obtain rfl:k=j:=by omega
   rw[hr]at hr'
   cases hr'
   exact h)
  have j1:(j:Int)<n:=by omega
  obtain⟨x,o,y,z⟩:=r;simp only at q0 q1 q2 q3 HYE HNX;clear hr;by_cases hx:x=p
  ·subst hx;have HR:=hzz (HYE.out rfl);clear HYE HNX
   go_wp2_with fail
   go_ret;exact⟨by rw[HR.out];rfl,HB.out.alloc HB.out.size _⟩
  have ex:(x==p)=false:=by simp[hx]
  have HQ:=hzz (HNX.out hx);clear hx HYE HNX
  go_wp2_with fail
  go_roundg (n-(j+1))
  case measure=>omega
  exact⟨j+1,by omega,rfl,by go_num,HQ,hzz (HB.out.alloc HB.out.size _)⟩
 obtain rfl:j=n:=by omega
 have HR:=hzz (D5g (L:=L) (p:=p) (fun k r hk=>HG.out k r (by have:=(gsz hk).1;rw[HLn.out]at this;exact this) hk))
 go_wp2_with fail
 go_ret;exact⟨by rw[HR.out];rfl,HB.out⟩
theorem C4b(w:World)(a:Option Addr)(n cap:Nat)(L:List RW)(hs:Rs w a n L)(hn:n<=65536)(hw:∀r∈L,r.op<256):Calls Tryz.prog 115 #[.slice a n cap] w (B0s (.bool (A7b L)) w):=by
 have HS:=hzz hs;have HLn:=hzz hs.1;have HW:=hzz hw;clear hs hw;go_enter Tryz.func115,Tryz.ntmps115
 go_wp2_with fail
 go_loopg [7] n (fun gn i wr=>∃j:Nat,j<=n/\gn=n-j/\i= .int .i64 j/\Hid (∀(k:Nat) r,k<j->L[k]? =some r->(!(A0q r.op==7)||thereB L r.a)=true)/\Hid (Below w.heap.size w wr))
 case atStart=>exact⟨0,by omega,by omega,by go_num,hzz (fun k r h=>by omega),hzz brz⟩
 obtain⟨j,hj,rfl,rfl,HG,HB⟩:=hrel;by_cases hlt:j<n
 ·obtain⟨b,off,r,rfl,_,hr,q⟩:=(HS.out.below HB.out).at j hlt;obtain⟨q0,q1,q2,q3⟩:=q;have hop:=HW.out r (List.mem_of_getElem? hr);have HBad:=hzz (C6v (L:=L) (List.mem_of_getElem? hr))
  have HNx:=hzz (show(!(A0q r.op==7)||thereB L r.a)=true->∀(k:Nat) r,k<j+1->L[k]? =some r->(!(A0q r.op==7)||thereB L r.a)=true from fun h k r' hk hr'=>by
   rcases Nat.lt_or_ge k j with h1|h1
   ·exact HG.out k r' h1 hr'
   obtain rfl:k=j:=by omega
   rw[hr]at hr'
   cases hr'
   exact h)
  have j1:(j:Int)<n:=by omega
  have HTH:=hzz (fun w' (hb:Below w.heap.size w w')=>D4b w' (some ⟨b,off,none⟩) n cap L r.a (HS.out.below hb) hn);have HFM:=hzz (fun w'=>A8x w' r.op hop);obtain⟨p,o,x,y⟩:=r
  simp only at q0 q1 q2 q3 hop HBad HNx HTH HFM;have f9:=A3s o;generalize thereB L x=th at*;generalize A0q o=f at*;clear hr
  have HA:=hzz (HB.out.alloc HB.out.size (.cells #[.int .i64 p,.int .u8 (o:Nat),.int .i64 x,.int .i64 y] 118));by_cases h7:f=7
  ·subst h7
   go_wp2_with fail
   refine(HFM.out _).mono ?_;rintro e w' ⟨rfl,rfl⟩
   go_wp2_with fail
   refine(HTH.out _ HA.out).mono ?_;rintro e w3 ⟨rfl,hb3⟩;have HB3:=btz HA hb3;clear hb3
   cases th
   ·have HR:=hzz (HBad.out rfl)
    go_wp2_with fail
    go_ret;exact⟨by rw[HR.out];rfl,HB3.out⟩
   have HQ:=hzz (HNx.out rfl)
   go_wp2_with fail
   go_roundg (n-(j+1))
   case measure=>omega
   exact⟨j+1,by omega,rfl,by go_num,HQ,HB3⟩
  have e7:((f:Int)==7)=false:=by simp;omega
  have HQ:=hzz (HNx.out (by simp[h7]));clear h7
  go_wp2_with fail
  refine(HFM.out _).mono ?_;rintro e w' ⟨rfl,rfl⟩
  go_wp2_with fail
  go_roundg (n-(j+1))
  case measure=>omega
  exact⟨j+1,by omega,rfl,by go_num,HQ,HA⟩
 obtain rfl:j=n:=by omega
 have HR:=hzz (C0r (L:=L) (fun k r hk=>HG.out k r (by have:=(gsz hk).1;rw[HLn.out]at this;exact this) hk))
 go_wp2_with fail
 go_ret;exact⟨by rw[HR.out];rfl,HB.out⟩
theorem B6y(w:World)(a:Option Addr)(n cap:Nat)(bs:List UInt8)(hs:Sl A5q w a n bs)(hn:n<=65536)(hcap:n<=cap):Calls Tryz.prog 65 #[.slice a n cap] w (A2d (A1y bs) w):=by
 have HS:=hzz hs;have HLn:=hzz hs.1;obtain⟨R,hR⟩:=exz (A1y bs);rw[<-hR];have HR:=hzz hR;clear hs hR;by_cases h4:4096<n
 ·have HQ:=hzz (show R=(9,[]) by rw[HR.out];exact B5t (by rw[HLn.out];exact h4));have e1:decide ((4096:Int)<n)=true:=by simp;omega
  go_enter Tryz.func65,Tryz.ntmps65
  go_wp2_with fail
  go_ret2;exact A2d.err HQ.out brz
 have e1:decide ((4096:Int)<n)=false:=by simp;omega
 have H4:=hzz (show ¬4096<bs.length by rw[HLn.out];exact h4);go_enter Tryz.func65,Tryz.ntmps65
 go_wp2_with fail
 go_loopg [4,5] n (fun gn v i wr=>∃p fuel m:Nat,∃acc,p<=n/\gn=n-p/\i= .int .i64 p/\n<fuel+p/\m<=p/\Hid (wr.ownsRow w.heap.size 118 4 v m (acc.flatMap RW.cells))/\Hid (∀r∈acc,A4p r.pos/\A4p r.a/\r.op<256)/\
  Hid (Below w.heap.size w wr)/\Hid (B0c bs (bs.length+1) 0 []=B0c bs fuel p acc))
 case atStart=>exact⟨0,n+1,0,[],by omega,by omega,by go_num,by omega,by omega,hzz (World.ownsRow_nil _ _ _ _),hzz (fun r hr=>by cases hr),hzz brz,hzz (by rw[HLn.out])⟩
 obtain⟨p,fuel,m,acc,hp,rfl,rfl,hf,hm,HO,HW,HB,HD⟩:=hrel;by_cases hlt:p<n
 ·obtain⟨fuel,rfl⟩:∃f,fuel=f+1:=⟨fuel-1,by omega⟩;obtain⟨b,off,rfl,hbl,hc⟩:=(HS.out.below HB.out).2 (by omega);have hpl:p<bs.length:=by rw[HLn.out];exact hlt
  have q0:=hc p hpl;have hop:bs[p].toNat=A3w bs p:=by unfold A3w;simp[List.getD,hpl]
  unfold A5q at q0;rw[hop]at q0;have hol:=C3w bs p;have hf9:=A3s (A3w bs p);have HLE:=hzz (fun w'=>C7d w' (A3w bs p) hol);have HFM:=hzz (fun w'=>A8x w' (A3w bs p) hol)
  have HNO:=hzz (B4r bs fuel p acc hpl);have HSH:=hzz (B3h bs fuel p acc hpl);have HBA:=hzz (B9r bs fuel p acc hpl);have HNX:=hzz (B2g bs fuel p acc hpl)
  have HRW:Hid (A7s bs p=⟨p,A3w bs p,A1n bs p (A0q (A3w bs p)),A2i bs p (A0q (A3w bs p))⟩):=hzz rfl;have HWF:=hzz (C6k bs p (by omega));rw[HRW.out]at HWF HNX
  have p1:(p:Int)<n:=by omega
  have o1:(A3w bs p:Int)<256:=by omega
  rw[HLn.out]at HSH HBA HNX;clear hc hop hpl;generalize A0q (A3w bs p)=f at*;generalize A3w bs p=o at*;have HNE:=hzz (C4g HO.out)
  go_upto_region 7 with fail
  have HAL:=hzz (HB.out.alloc HB.out.size (.cells #[.int .i64 p,.int .u8 (o:Nat),.int .i64 0,.int .i64 0] 118))
  have HKA:=hzz (show A8d (wr.alloc (.cells #[.int .i64 p,.int .u8 (o:Nat),.int .i64 0,.int .i64 0] 118)) wr.heap.size p o 0 0 from heap_alloc_last wr _)
  have HWW:=hzz ((Below.refl wr.heap.size wr).alloc nlz (.cells #[.int .i64 p,.int .u8 (o:Nat),.int .i64 0,.int .i64 0] 118));clear q0;generalize wr.alloc _=W at*;generalize hg0:wr.heap.size=g at*
  have HG0:=hzz hg0;clear hg0;obtain⟨⟨c0,c1,c2,c3⟩,⟨f2,f3⟩,hgW⟩:=HKA.out.box;obtain⟨s,hs⟩:=exz (A1r f);rw[<-hs]at HLE HSH HBA HNX;have HSZ:=hzz hs;clear hs
  go_wp2_with fail
  refine(HLE.out _).mono ?_;rintro e w' ⟨rfl,rfl⟩;have hfc:f=0\/f=1\/f=2\/f=3\/f=4\/f=5\/f=6\/f=7\/f=8\/f=9:=by omega
  clear hf9
  rcases hfc with rfl|rfl|rfl|rfl|rfl|rfl|rfl|rfl|rfl|rfl
  ·have HQ:=hzz (show R=(8,[]) by rw[HR.out];exact A3c H4.out (by rw[HD.out];exact HNO.out rfl) (by decide));obtain rfl:s=0:=HSZ.out;clear HNO HSH HBA HNX
   go_wp2_with fail
   go_ret2;exact A2d.err HQ.out HAL.out
  ·have HV:Hid ((A5y bs ((p:Int)+1) 1).1=A2e bs p 1):=hzz rfl;have HU:=hzz (A2b bs ((p:Int)+1) 1);have hsm:=A2a bs ((p:Int)+1) 1 1 (by decide) (by decide)
   have HC:=hzz (fun w' (h:Below w.heap.size w w')=>A4z w' (some ⟨b,off,none⟩) n cap bs ((p:Int)+1) 1 (HS.out.below h) (by omega) hcap (by unfold A5r;omega) (by unfold A5r;omega))
   rw[HV.out]at HC HU hsm;generalize(A5y bs ((p:Int)+1) 1).2=e2 at*;have HRA:Hid (A1n bs p 1=0):=hzz (by unfold A1n;simp);have HRB:Hid (A2i bs p 1=0):=hzz (by unfold A2i;simp)
   have HBD:Hid (A1z bs p 1=false):=hzz (by unfold A1z;simp);obtain⟨ra,hra⟩:∃x,x=A1n bs p 1:=⟨_,rfl⟩;obtain⟨rb,hrb⟩:∃y,y=A2i bs p 1:=⟨_,rfl⟩;rw[<-hra]at HRA HNX HWF
   rw[<-hrb]at HRB HNX;obtain rfl:s=1:=HSZ.out;clear hra hrb HV HNO;generalize A2e bs p 1=v at*;rw[show((256^1:Nat):Int)=256 from rfl]at hsm;have hv0:=HU.out.1
   by_cases h1:n-p<1
   ·have HQ:=hzz (show R=(6,[]) by rw[HR.out];exact A3c H4.out (by rw[HD.out];exact HSH.out (by decide) h1) (by decide));have e2':decide ((n:Int) -p<1)=true:=by simp;omega
    clear HSH HBA HNX
    go_wp2_with fail
    go_ret2;exact A2d.err HQ.out HAL.out
   have e2':decide ((n:Int) -p<1)=false:=by simp;omega
   have HSN:=hzz h1;have hpn:p+1<=n:=by omega
   clear h1
   go_wp2_with fail
   refine(HC.out _ HAL.out).mono ?_;rintro e w' ⟨rfl,rfl⟩
   go_wp2_with fail
   refine(HFM.out _).mono ?_;rintro e w' ⟨rfl,rfl⟩
   go_upto_region 27 with fail
   have HKX:=hzz (show A8d W g p o ra rb by rw[HRA.out,HRB.out];exact HKA.out);have HWX:=HWW;have HBX:=hzz (HB.out.trans (HWX.out.mono (by rw[<-HG0.out];exact HB.out.size)))
   have HOX:=hzz (A1p HO.out (by rw[HG0.out];exact HWX.out));clear HKA HWW;have HBF:=hzz HBD.out;clear c0 c1 c2 c3;obtain⟨⟨c0,c1,c2,c3⟩,_,hgX0⟩:=HKX.out.box
   go_wp2_with fail
   refine(HFM.out _).mono ?_;rintro e w' ⟨rfl,rfl⟩;clear c0 c1 c2 c3 hgX0;have HDN:=hzz (HD.out.trans (HNX.out (by decide) HSN.out HBF.out));obtain⟨⟨c0,c1,c2,c3⟩,_,hgX⟩:=HKX.out.box
   go_wp2_with (at_builtin;first
    |(refine A0r stR rfl _ _ rfl w.heap.size _ _ _ rfl HOX.out _ 1 _ _ rfl rfl rfl rfl (by omega) (by unfold maxLen;omega) HBX.out.size ?_;intro v4 w4 hown4 hg4 hb4;have HO4:=hzz hown4;have HB4:=hzz (HBX.out.trans hb4);clear hown4 hg4 hb4))
   go_roundg (n-(p+1))
   case measure=>omega
   case rel=>exact⟨p+1,fuel,m+1,acc++[⟨p,o,ra,rb⟩],by omega,rfl,by go_num,by omega,by omega,hzz (by rw[List.flatMap_append];exact HO4.out),hzz (fun r hr=>by
    rcases List.mem_append.1 hr with h|h
    ·exact HW.out r h
    rw[List.mem_singleton.1 h];exact HWF.out),HB4,HDN⟩
  ·have HV:Hid ((A5y bs ((p:Int)+1) 1).1=A2e bs p 2):=hzz rfl;have HU:=hzz (A2b bs ((p:Int)+1) 1);have hsm:=A2a bs ((p:Int)+1) 1 1 (by decide) (by decide)
   have HC:=hzz (fun w' (h:Below w.heap.size w w')=>A4z w' (some ⟨b,off,none⟩) n cap bs ((p:Int)+1) 1 (HS.out.below h) (by omega) hcap (by unfold A5r;omega) (by unfold A5r;omega))
   rw[HV.out]at HC HU hsm;generalize(A5y bs ((p:Int)+1) 1).2=e2 at*;have HRA:Hid (A1n bs p 2=A2e bs p 2):=hzz (by unfold A1n;simp)
   have HRB:Hid (A2i bs p 2=0):=hzz (by unfold A2i;simp);have HBD:Hid (A1z bs p 2=false):=hzz (by unfold A1z;simp);obtain⟨ra,hra⟩:∃x,x=A1n bs p 2:=⟨_,rfl⟩
   obtain⟨rb,hrb⟩:∃y,y=A2i bs p 2:=⟨_,rfl⟩;rw[<-hra]at HRA HNX HWF;rw[<-hrb]at HRB HNX;obtain rfl:s=2:=HSZ.out;clear hra hrb HV HNO;generalize A2e bs p 2=v at*
   rw[show((256^1:Nat):Int)=256 from rfl]at hsm;have hv0:=HU.out.1;by_cases h1:n-p<2
   ·have HQ:=hzz (show R=(6,[]) by rw[HR.out];exact A3c H4.out (by rw[HD.out];exact HSH.out (by decide) h1) (by decide));have e2':decide ((n:Int) -p<2)=true:=by simp;omega
    clear HSH HBA HNX
    go_wp2_with fail
    go_ret2;exact A2d.err HQ.out HAL.out
   have e2':decide ((n:Int) -p<2)=false:=by simp;omega
   have HSN:=hzz h1;have hpn:p+2<=n:=by omega
   clear h1
   go_wp2_with fail
   refine(HC.out _ HAL.out).mono ?_;rintro e w' ⟨rfl,rfl⟩
   go_wp2_with fail
   refine(HFM.out _).mono ?_;rintro e w' ⟨rfl,rfl⟩
   go_upto_region 27 with fail
   have HKX:=hzz (show A8d (W.setCell ⟨g,2,none⟩ (.int .i64 v)) g p o ra rb by rw[HRA.out,HRB.out];exact HKA.out.set2)
   have HWX:=hzz (show Below g wr (W.setCell ⟨g,2,none⟩ (.int .i64 v))from HWW.out.setCell (p:=⟨g,2,none⟩) nlz _);clear c0 c1 c2 c3 f2 f3;generalize(W.setCell ⟨g,2,none⟩ (.int .i64 v))=X at*
   have HBX:=hzz (HB.out.trans (HWX.out.mono (by rw[<-HG0.out];exact HB.out.size)));have HOX:=hzz (A1p HO.out (by rw[HG0.out];exact HWX.out));clear HKA HWW;have HBF:=hzz HBD.out
   obtain⟨⟨c0,c1,c2,c3⟩,_,hgX0⟩:=HKX.out.box
   go_wp2_with fail
   refine(HFM.out _).mono ?_;rintro e w' ⟨rfl,rfl⟩;clear c0 c1 c2 c3 hgX0;have HDN:=hzz (HD.out.trans (HNX.out (by decide) HSN.out HBF.out));obtain⟨⟨c0,c1,c2,c3⟩,_,hgX⟩:=HKX.out.box
   go_wp2_with (at_builtin;first
    |(refine A0r stR rfl _ _ rfl w.heap.size _ _ _ rfl HOX.out _ 1 _ _ rfl rfl rfl rfl (by omega) (by unfold maxLen;omega) HBX.out.size ?_;intro v4 w4 hown4 hg4 hb4;have HO4:=hzz hown4;have HB4:=hzz (HBX.out.trans hb4);clear hown4 hg4 hb4))
   go_roundg (n-(p+2))
   case measure=>omega
   case rel=>exact⟨p+2,fuel,m+1,acc++[⟨p,o,ra,rb⟩],by omega,rfl,by go_num,by omega,by omega,hzz (by rw[List.flatMap_append];exact HO4.out),hzz (fun r hr=>by
    rcases List.mem_append.1 hr with h|h
    ·exact HW.out r h
    rw[List.mem_singleton.1 h];exact HWF.out),HB4,HDN⟩
  ·have HV:Hid ((A5y bs ((p:Int)+1) 1).1=A2e bs p 3):=hzz rfl;have HU:=hzz (A2b bs ((p:Int)+1) 1);have hsm:=A2a bs ((p:Int)+1) 1 1 (by decide) (by decide)
   have HC:=hzz (fun w' (h:Below w.heap.size w w')=>A4z w' (some ⟨b,off,none⟩) n cap bs ((p:Int)+1) 1 (HS.out.below h) (by omega) hcap (by unfold A5r;omega) (by unfold A5r;omega))
   rw[HV.out]at HC HU hsm;generalize(A5y bs ((p:Int)+1) 1).2=e2 at*;have HRA:Hid (A1n bs p 3=A2g (A2e bs p 3) 1):=hzz (by unfold A1n;simp)
   have HRB:Hid (A2i bs p 3=0):=hzz (by unfold A2i;simp);have HBD:Hid (A1z bs p 3=false):=hzz (by unfold A1z;simp);obtain⟨ra,hra⟩:∃x,x=A1n bs p 3:=⟨_,rfl⟩
   obtain⟨rb,hrb⟩:∃y,y=A2i bs p 3:=⟨_,rfl⟩;rw[<-hra]at HRA HNX HWF;rw[<-hrb]at HRB HNX;obtain rfl:s=2:=HSZ.out;clear hra hrb HV HNO;generalize A2e bs p 3=v at*
   rw[show((256^1:Nat):Int)=256 from rfl]at hsm;have hv0:=HU.out.1;by_cases h1:n-p<2
   ·have HQ:=hzz (show R=(6,[]) by rw[HR.out];exact A3c H4.out (by rw[HD.out];exact HSH.out (by decide) h1) (by decide));have e2':decide ((n:Int) -p<2)=true:=by simp;omega
    clear HSH HBA HNX
    go_wp2_with fail
    go_ret2;exact A2d.err HQ.out HAL.out
   have e2':decide ((n:Int) -p<2)=false:=by simp;omega
   have HSN:=hzz h1;have hpn:p+2<=n:=by omega
   clear h1
   go_wp2_with fail
   refine(HC.out _ HAL.out).mono ?_;rintro e w' ⟨rfl,rfl⟩
   go_wp2_with fail
   refine(HFM.out _).mono ?_;rintro e w' ⟨rfl,rfl⟩;have HSG:=hzz (fun w'=>A8p w' v 1 HU.out (by unfold A5r;omega));have hs2:=B5c v
   go_wp2_with fail
   refine(HSG.out _).mono ?_;rintro e w' ⟨rfl,rfl⟩
   go_upto_region 27 with fail
   have HKX:=hzz (show A8d (W.setCell ⟨g,2,none⟩ (.int .i64 (A2g v 1))) g p o ra rb by rw[HRA.out,HRB.out];exact HKA.out.set2)
   have HWX:=hzz (show Below g wr (W.setCell ⟨g,2,none⟩ (.int .i64 (A2g v 1)))from HWW.out.setCell (p:=⟨g,2,none⟩) nlz _);clear c0 c1 c2 c3 f2 f3
   generalize(W.setCell ⟨g,2,none⟩ (.int .i64 (A2g v 1)))=X at*;have HBX:=hzz (HB.out.trans (HWX.out.mono (by rw[<-HG0.out];exact HB.out.size)))
   have HOX:=hzz (A1p HO.out (by rw[HG0.out];exact HWX.out));clear HKA HWW;have HBF:=hzz HBD.out;obtain⟨⟨c0,c1,c2,c3⟩,_,hgX0⟩:=HKX.out.box
   go_wp2_with fail
   refine(HFM.out _).mono ?_;rintro e w' ⟨rfl,rfl⟩;clear c0 c1 c2 c3 hgX0;have HDN:=hzz (HD.out.trans (HNX.out (by decide) HSN.out HBF.out));obtain⟨⟨c0,c1,c2,c3⟩,_,hgX⟩:=HKX.out.box
   go_wp2_with (at_builtin;first
    |(refine A0r stR rfl _ _ rfl w.heap.size _ _ _ rfl HOX.out _ 1 _ _ rfl rfl rfl rfl (by omega) (by unfold maxLen;omega) HBX.out.size ?_;intro v4 w4 hown4 hg4 hb4;have HO4:=hzz hown4;have HB4:=hzz (HBX.out.trans hb4);clear hown4 hg4 hb4))
   go_roundg (n-(p+2))
   case measure=>omega
   case rel=>exact⟨p+2,fuel,m+1,acc++[⟨p,o,ra,rb⟩],by omega,rfl,by go_num,by omega,by omega,hzz (by rw[List.flatMap_append];exact HO4.out),hzz (fun r hr=>by
    rcases List.mem_append.1 hr with h|h
    ·exact HW.out r h
    rw[List.mem_singleton.1 h];exact HWF.out),HB4,HDN⟩
  ·have HV:Hid ((A5y bs ((p:Int)+1) 2).1=A2e bs p 4):=hzz rfl;have HU:=hzz (A2b bs ((p:Int)+1) 2);have hsm:=A2a bs ((p:Int)+1) 2 2 (by decide) (by decide)
   have HC:=hzz (fun w' (h:Below w.heap.size w w')=>A4z w' (some ⟨b,off,none⟩) n cap bs ((p:Int)+1) 2 (HS.out.below h) (by omega) hcap (by unfold A5r;omega) (by unfold A5r;omega))
   rw[HV.out]at HC HU hsm;generalize(A5y bs ((p:Int)+1) 2).2=e2 at*;have HRA:Hid (A1n bs p 4=A2g (A2e bs p 4) 2):=hzz (by unfold A1n;simp)
   have HRB:Hid (A2i bs p 4=0):=hzz (by unfold A2i;simp);have HBD:Hid (A1z bs p 4=false):=hzz (by unfold A1z;simp);obtain⟨ra,hra⟩:∃x,x=A1n bs p 4:=⟨_,rfl⟩
   obtain⟨rb,hrb⟩:∃y,y=A2i bs p 4:=⟨_,rfl⟩;rw[<-hra]at HRA HNX HWF;rw[<-hrb]at HRB HNX;obtain rfl:s=3:=HSZ.out;clear hra hrb HV HNO;generalize A2e bs p 4=v at*
   rw[show((256^2:Nat):Int)=65536 from rfl]at hsm;have hv0:=HU.out.1;by_cases h1:n-p<3
   ·have HQ:=hzz (show R=(6,[]) by rw[HR.out];exact A3c H4.out (by rw[HD.out];exact HSH.out (by decide) h1) (by decide));have e2':decide ((n:Int) -p<3)=true:=by simp;omega
    clear HSH HBA HNX
    go_wp2_with fail
    go_ret2;exact A2d.err HQ.out HAL.out
   have e2':decide ((n:Int) -p<3)=false:=by simp;omega
   have HSN:=hzz h1;have hpn:p+3<=n:=by omega
   clear h1
   go_wp2_with fail
   refine(HC.out _ HAL.out).mono ?_;rintro e w' ⟨rfl,rfl⟩
   go_wp2_with fail
   refine(HFM.out _).mono ?_;rintro e w' ⟨rfl,rfl⟩;have HSG:=hzz (fun w'=>A8p w' v 2 HU.out (by unfold A5r;omega));have hs2:=B4u v
   go_wp2_with fail
   refine(HSG.out _).mono ?_;rintro e w' ⟨rfl,rfl⟩
   go_upto_region 27 with fail
   have HKX:=hzz (show A8d (W.setCell ⟨g,2,none⟩ (.int .i64 (A2g v 2))) g p o ra rb by rw[HRA.out,HRB.out];exact HKA.out.set2)
   have HWX:=hzz (show Below g wr (W.setCell ⟨g,2,none⟩ (.int .i64 (A2g v 2)))from HWW.out.setCell (p:=⟨g,2,none⟩) nlz _);clear c0 c1 c2 c3 f2 f3
   generalize(W.setCell ⟨g,2,none⟩ (.int .i64 (A2g v 2)))=X at*;have HBX:=hzz (HB.out.trans (HWX.out.mono (by rw[<-HG0.out];exact HB.out.size)))
   have HOX:=hzz (A1p HO.out (by rw[HG0.out];exact HWX.out));clear HKA HWW;have HBF:=hzz HBD.out;obtain⟨⟨c0,c1,c2,c3⟩,_,hgX0⟩:=HKX.out.box
   go_wp2_with fail
   refine(HFM.out _).mono ?_;rintro e w' ⟨rfl,rfl⟩;clear c0 c1 c2 c3 hgX0;have HDN:=hzz (HD.out.trans (HNX.out (by decide) HSN.out HBF.out));obtain⟨⟨c0,c1,c2,c3⟩,_,hgX⟩:=HKX.out.box
   go_wp2_with (at_builtin;first
    |(refine A0r stR rfl _ _ rfl w.heap.size _ _ _ rfl HOX.out _ 1 _ _ rfl rfl rfl rfl (by omega) (by unfold maxLen;omega) HBX.out.size ?_;intro v4 w4 hown4 hg4 hb4;have HO4:=hzz hown4;have HB4:=hzz (HBX.out.trans hb4);clear hown4 hg4 hb4))
   go_roundg (n-(p+3))
   case measure=>omega
   case rel=>exact⟨p+3,fuel,m+1,acc++[⟨p,o,ra,rb⟩],by omega,rfl,by go_num,by omega,by omega,hzz (by rw[List.flatMap_append];exact HO4.out),hzz (fun r hr=>by
    rcases List.mem_append.1 hr with h|h
    ·exact HW.out r h
    rw[List.mem_singleton.1 h];exact HWF.out),HB4,HDN⟩
  ·have HV:Hid ((A5y bs ((p:Int)+1) 1).1=A2e bs p 5):=hzz rfl;have HU:=hzz (A2b bs ((p:Int)+1) 1);have hsm:=A2a bs ((p:Int)+1) 1 1 (by decide) (by decide)
   have HC:=hzz (fun w' (h:Below w.heap.size w w')=>A4z w' (some ⟨b,off,none⟩) n cap bs ((p:Int)+1) 1 (HS.out.below h) (by omega) hcap (by unfold A5r;omega) (by unfold A5r;omega))
   rw[HV.out]at HC HU hsm;generalize(A5y bs ((p:Int)+1) 1).2=e2 at*;have HRA:Hid (A1n bs p 5=A2e bs p 5):=hzz (by unfold A1n;simp)
   have HRB:Hid (A2i bs p 5=0):=hzz (by unfold A2i;simp);have HBD:Hid (A1z bs p 5=false):=hzz (by unfold A1z;simp);obtain⟨ra,hra⟩:∃x,x=A1n bs p 5:=⟨_,rfl⟩
   obtain⟨rb,hrb⟩:∃y,y=A2i bs p 5:=⟨_,rfl⟩;rw[<-hra]at HRA HNX HWF;rw[<-hrb]at HRB HNX;obtain rfl:s=2:=HSZ.out;clear hra hrb HV HNO;generalize A2e bs p 5=v at*
   rw[show((256^1:Nat):Int)=256 from rfl]at hsm;have hv0:=HU.out.1;by_cases h1:n-p<2
   ·have HQ:=hzz (show R=(6,[]) by rw[HR.out];exact A3c H4.out (by rw[HD.out];exact HSH.out (by decide) h1) (by decide));have e2':decide ((n:Int) -p<2)=true:=by simp;omega
    clear HSH HBA HNX
    go_wp2_with fail
    go_ret2;exact A2d.err HQ.out HAL.out
   have e2':decide ((n:Int) -p<2)=false:=by simp;omega
   have HSN:=hzz h1;have hpn:p+2<=n:=by omega
   clear h1
   go_wp2_with fail
   refine(HC.out _ HAL.out).mono ?_;rintro e w' ⟨rfl,rfl⟩
   go_wp2_with fail
   refine(HFM.out _).mono ?_;rintro e w' ⟨rfl,rfl⟩
   go_upto_region 27 with fail
   have HKX:=hzz (show A8d (W.setCell ⟨g,2,none⟩ (.int .i64 v)) g p o ra rb by rw[HRA.out,HRB.out];exact HKA.out.set2)
   have HWX:=hzz (show Below g wr (W.setCell ⟨g,2,none⟩ (.int .i64 v))from HWW.out.setCell (p:=⟨g,2,none⟩) nlz _);clear c0 c1 c2 c3 f2 f3;generalize(W.setCell ⟨g,2,none⟩ (.int .i64 v))=X at*
   have HBX:=hzz (HB.out.trans (HWX.out.mono (by rw[<-HG0.out];exact HB.out.size)));have HOX:=hzz (A1p HO.out (by rw[HG0.out];exact HWX.out));clear HKA HWW;have HBF:=hzz HBD.out
   obtain⟨⟨c0,c1,c2,c3⟩,_,hgX0⟩:=HKX.out.box
   go_wp2_with fail
   refine(HFM.out _).mono ?_;rintro e w' ⟨rfl,rfl⟩;clear c0 c1 c2 c3 hgX0;have HDN:=hzz (HD.out.trans (HNX.out (by decide) HSN.out HBF.out));obtain⟨⟨c0,c1,c2,c3⟩,_,hgX⟩:=HKX.out.box
   go_wp2_with (at_builtin;first
    |(refine A0r stR rfl _ _ rfl w.heap.size _ _ _ rfl HOX.out _ 1 _ _ rfl rfl rfl rfl (by omega) (by unfold maxLen;omega) HBX.out.size ?_;intro v4 w4 hown4 hg4 hb4;have HO4:=hzz hown4;have HB4:=hzz (HBX.out.trans hb4);clear hown4 hg4 hb4))
   go_roundg (n-(p+2))
   case measure=>omega
   case rel=>exact⟨p+2,fuel,m+1,acc++[⟨p,o,ra,rb⟩],by omega,rfl,by go_num,by omega,by omega,hzz (by rw[List.flatMap_append];exact HO4.out),hzz (fun r hr=>by
    rcases List.mem_append.1 hr with h|h
    ·exact HW.out r h
    rw[List.mem_singleton.1 h];exact HWF.out),HB4,HDN⟩
  ·have HV:Hid ((A5y bs ((p:Int)+1) 2).1=A2e bs p 6):=hzz rfl;have HU:=hzz (A2b bs ((p:Int)+1) 2);have hsm:=A2a bs ((p:Int)+1) 2 2 (by decide) (by decide)
   have HC:=hzz (fun w' (h:Below w.heap.size w w')=>A4z w' (some ⟨b,off,none⟩) n cap bs ((p:Int)+1) 2 (HS.out.below h) (by omega) hcap (by unfold A5r;omega) (by unfold A5r;omega))
   rw[HV.out]at HC HU hsm;generalize(A5y bs ((p:Int)+1) 2).2=e2 at*;have HRA:Hid (A1n bs p 6=A2e bs p 6):=hzz (by unfold A1n;simp)
   have HRB:Hid (A2i bs p 6=0):=hzz (by unfold A2i;simp);have HBD:Hid (A1z bs p 6=false):=hzz (by unfold A1z;simp);obtain⟨ra,hra⟩:∃x,x=A1n bs p 6:=⟨_,rfl⟩
   obtain⟨rb,hrb⟩:∃y,y=A2i bs p 6:=⟨_,rfl⟩;rw[<-hra]at HRA HNX HWF;rw[<-hrb]at HRB HNX;obtain rfl:s=3:=HSZ.out;clear hra hrb HV HNO;generalize A2e bs p 6=v at*
   rw[show((256^2:Nat):Int)=65536 from rfl]at hsm;have hv0:=HU.out.1;by_cases h1:n-p<3
   ·have HQ:=hzz (show R=(6,[]) by rw[HR.out];exact A3c H4.out (by rw[HD.out];exact HSH.out (by decide) h1) (by decide));have e2':decide ((n:Int) -p<3)=true:=by simp;omega
    clear HSH HBA HNX
    go_wp2_with fail
    go_ret2;exact A2d.err HQ.out HAL.out
   have e2':decide ((n:Int) -p<3)=false:=by simp;omega
   have HSN:=hzz h1;have hpn:p+3<=n:=by omega
   clear h1
   go_wp2_with fail
   refine(HC.out _ HAL.out).mono ?_;rintro e w' ⟨rfl,rfl⟩
   go_wp2_with fail
   refine(HFM.out _).mono ?_;rintro e w' ⟨rfl,rfl⟩
   go_upto_region 27 with fail
   have HKX:=hzz (show A8d (W.setCell ⟨g,2,none⟩ (.int .i64 v)) g p o ra rb by rw[HRA.out,HRB.out];exact HKA.out.set2)
   have HWX:=hzz (show Below g wr (W.setCell ⟨g,2,none⟩ (.int .i64 v))from HWW.out.setCell (p:=⟨g,2,none⟩) nlz _);clear c0 c1 c2 c3 f2 f3;generalize(W.setCell ⟨g,2,none⟩ (.int .i64 v))=X at*
   have HBX:=hzz (HB.out.trans (HWX.out.mono (by rw[<-HG0.out];exact HB.out.size)));have HOX:=hzz (A1p HO.out (by rw[HG0.out];exact HWX.out));clear HKA HWW;have HBF:=hzz HBD.out
   obtain⟨⟨c0,c1,c2,c3⟩,_,hgX0⟩:=HKX.out.box
   go_wp2_with fail
   refine(HFM.out _).mono ?_;rintro e w' ⟨rfl,rfl⟩;clear c0 c1 c2 c3 hgX0;have HDN:=hzz (HD.out.trans (HNX.out (by decide) HSN.out HBF.out));obtain⟨⟨c0,c1,c2,c3⟩,_,hgX⟩:=HKX.out.box
   go_wp2_with (at_builtin;first
    |(refine A0r stR rfl _ _ rfl w.heap.size _ _ _ rfl HOX.out _ 1 _ _ rfl rfl rfl rfl (by omega) (by unfold maxLen;omega) HBX.out.size ?_;intro v4 w4 hown4 hg4 hb4;have HO4:=hzz hown4;have HB4:=hzz (HBX.out.trans hb4);clear hown4 hg4 hb4))
   go_roundg (n-(p+3))
   case measure=>omega
   case rel=>exact⟨p+3,fuel,m+1,acc++[⟨p,o,ra,rb⟩],by omega,rfl,by go_num,by omega,by omega,hzz (by rw[List.flatMap_append];exact HO4.out),hzz (fun r hr=>by
    rcases List.mem_append.1 hr with h|h
    ·exact HW.out r h
    rw[List.mem_singleton.1 h];exact HWF.out),HB4,HDN⟩
  ·have HV:Hid ((A5y bs ((p:Int)+1) 2).1=A2e bs p 7):=hzz rfl;have HU:=hzz (A2b bs ((p:Int)+1) 2);have hsm:=A2a bs ((p:Int)+1) 2 2 (by decide) (by decide)
   have HC:=hzz (fun w' (h:Below w.heap.size w w')=>A4z w' (some ⟨b,off,none⟩) n cap bs ((p:Int)+1) 2 (HS.out.below h) (by omega) hcap (by unfold A5r;omega) (by unfold A5r;omega))
   rw[HV.out]at HC HU hsm;generalize(A5y bs ((p:Int)+1) 2).2=e2 at*;have HRA:Hid (A1n bs p 7=(p:Int)+A2g (A2e bs p 7) 2):=hzz (by unfold A1n;simp)
   have HRB:Hid (A2i bs p 7=0):=hzz (by unfold A2i;simp);have HBD:Hid (A1z bs p 7=false):=hzz (by unfold A1z;simp);obtain⟨ra,hra⟩:∃x,x=A1n bs p 7:=⟨_,rfl⟩
   obtain⟨rb,hrb⟩:∃y,y=A2i bs p 7:=⟨_,rfl⟩;rw[<-hra]at HRA HNX HWF;rw[<-hrb]at HRB HNX;obtain rfl:s=3:=HSZ.out;clear hra hrb HV HNO;generalize A2e bs p 7=v at*
   rw[show((256^2:Nat):Int)=65536 from rfl]at hsm;have hv0:=HU.out.1;by_cases h1:n-p<3
   ·have HQ:=hzz (show R=(6,[]) by rw[HR.out];exact A3c H4.out (by rw[HD.out];exact HSH.out (by decide) h1) (by decide));have e2':decide ((n:Int) -p<3)=true:=by simp;omega
    clear HSH HBA HNX
    go_wp2_with fail
    go_ret2;exact A2d.err HQ.out HAL.out
   have e2':decide ((n:Int) -p<3)=false:=by simp;omega
   have HSN:=hzz h1;have hpn:p+3<=n:=by omega
   clear h1
   go_wp2_with fail
   refine(HC.out _ HAL.out).mono ?_;rintro e w' ⟨rfl,rfl⟩
   go_wp2_with fail
   refine(HFM.out _).mono ?_;rintro e w' ⟨rfl,rfl⟩;have HSG:=hzz (fun w'=>A8p w' v 2 HU.out (by unfold A5r;omega));have hs2:=B4u v
   go_wp2_with fail
   refine(HSG.out _).mono ?_;rintro e w' ⟨rfl,rfl⟩
   go_upto_region 27 with fail
   have HKX:=hzz (show A8d (W.setCell ⟨g,2,none⟩ (.int .i64 ((p:Int)+A2g v 2))) g p o ra rb by rw[HRA.out,HRB.out];exact HKA.out.set2)
   have HWX:=hzz (show Below g wr (W.setCell ⟨g,2,none⟩ (.int .i64 ((p:Int)+A2g v 2)))from HWW.out.setCell (p:=⟨g,2,none⟩) nlz _);clear c0 c1 c2 c3 f2 f3
   generalize(W.setCell ⟨g,2,none⟩ (.int .i64 ((p:Int)+A2g v 2)))=X at*;have HBX:=hzz (HB.out.trans (HWX.out.mono (by rw[<-HG0.out];exact HB.out.size)))
   have HOX:=hzz (A1p HO.out (by rw[HG0.out];exact HWX.out));clear HKA HWW;have HBF:=hzz HBD.out;obtain⟨⟨c0,c1,c2,c3⟩,_,hgX0⟩:=HKX.out.box
   go_wp2_with fail
   refine(HFM.out _).mono ?_;rintro e w' ⟨rfl,rfl⟩;clear c0 c1 c2 c3 hgX0;have HDN:=hzz (HD.out.trans (HNX.out (by decide) HSN.out HBF.out));obtain⟨⟨c0,c1,c2,c3⟩,_,hgX⟩:=HKX.out.box
   go_wp2_with (at_builtin;first
    |(refine A0r stR rfl _ _ rfl w.heap.size _ _ _ rfl HOX.out _ 1 _ _ rfl rfl rfl rfl (by omega) (by unfold maxLen;omega) HBX.out.size ?_;intro v4 w4 hown4 hg4 hb4;have HO4:=hzz hown4;have HB4:=hzz (HBX.out.trans hb4);clear hown4 hg4 hb4))
   go_roundg (n-(p+3))
   case measure=>omega
   case rel=>exact⟨p+3,fuel,m+1,acc++[⟨p,o,ra,rb⟩],by omega,rfl,by go_num,by omega,by omega,hzz (by rw[List.flatMap_append];exact HO4.out),hzz (fun r hr=>by
    rcases List.mem_append.1 hr with h|h
    ·exact HW.out r h
    rw[List.mem_singleton.1 h];exact HWF.out),HB4,HDN⟩
  ·have HV:Hid ((A5y bs ((p:Int)+1) 2).1=A2e bs p 8):=hzz rfl;have HU:=hzz (A2b bs ((p:Int)+1) 2);have hsm:=A2a bs ((p:Int)+1) 2 2 (by decide) (by decide)
   have HC:=hzz (fun w' (h:Below w.heap.size w w')=>A4z w' (some ⟨b,off,none⟩) n cap bs ((p:Int)+1) 2 (HS.out.below h) (by omega) hcap (by unfold A5r;omega) (by unfold A5r;omega))
   rw[HV.out]at HC HU hsm;generalize(A5y bs ((p:Int)+1) 2).2=e2 at*;have HRA:Hid (A1n bs p 8=A2e bs p 8/256):=hzz (by unfold A1n;simp)
   have HRB:Hid (A2i bs p 8=A2g (A2e bs p 8) 1):=hzz (by unfold A2i;simp);have HBD:Hid (A1z bs p 8=false):=hzz (by unfold A1z;simp)
   obtain⟨ra,hra⟩:∃x,x=A1n bs p 8:=⟨_,rfl⟩;obtain⟨rb,hrb⟩:∃y,y=A2i bs p 8:=⟨_,rfl⟩;rw[<-hra]at HRA HNX HWF;rw[<-hrb]at HRB HNX;obtain rfl:s=3:=HSZ.out;clear hra hrb HV HNO
   generalize A2e bs p 8=v at*;rw[show((256^2:Nat):Int)=65536 from rfl]at hsm;have hv0:=HU.out.1;by_cases h1:n-p<3
   ·have HQ:=hzz (show R=(6,[]) by rw[HR.out];exact A3c H4.out (by rw[HD.out];exact HSH.out (by decide) h1) (by decide));have e2':decide ((n:Int) -p<3)=true:=by simp;omega
    clear HSH HBA HNX
    go_wp2_with fail
    go_ret2;exact A2d.err HQ.out HAL.out
   have e2':decide ((n:Int) -p<3)=false:=by simp;omega
   have HSN:=hzz h1;have hpn:p+3<=n:=by omega
   clear h1
   go_wp2_with fail
   refine(HC.out _ HAL.out).mono ?_;rintro e w' ⟨rfl,rfl⟩
   go_wp2_with fail
   refine(HFM.out _).mono ?_;rintro e w' ⟨rfl,rfl⟩;have HSG:=hzz (fun w'=>A8p w' v 1 HU.out (by unfold A5r;omega));have hs2:=B5c v
   go_wp2_with fail
   refine(HSG.out _).mono ?_;rintro e w' ⟨rfl,rfl⟩
   go_upto_region 27 with fail
   have HKX:=hzz (show A8d ((W.setCell ⟨g,2,none⟩ (.int .i64 (v/256))).setCell ⟨g,3,none⟩ (.int .i64 (A2g v 1))) g p o ra rb by rw[HRA.out,HRB.out];exact HKA.out.set2.set3)
   have HWX:=hzz (show Below g wr ((W.setCell ⟨g,2,none⟩ (.int .i64 (v/256))).setCell ⟨g,3,none⟩ (.int .i64 (A2g v 1)))from(HWW.out.setCell (p:=⟨g,2,none⟩) nlz _).setCell (p:=⟨g,3,none⟩) nlz _)
   clear c0 c1 c2 c3 f2 f3;generalize((W.setCell ⟨g,2,none⟩ (.int .i64 (v/256))).setCell ⟨g,3,none⟩ (.int .i64 (A2g v 1)))=X at*
   have HBX:=hzz (HB.out.trans (HWX.out.mono (by rw[<-HG0.out];exact HB.out.size)));have HOX:=hzz (A1p HO.out (by rw[HG0.out];exact HWX.out));clear HKA HWW;have HBF:=hzz HBD.out
   obtain⟨⟨c0,c1,c2,c3⟩,_,hgX0⟩:=HKX.out.box
   go_wp2_with fail
   refine(HFM.out _).mono ?_;rintro e w' ⟨rfl,rfl⟩;clear c0 c1 c2 c3 hgX0;have HDN:=hzz (HD.out.trans (HNX.out (by decide) HSN.out HBF.out));obtain⟨⟨c0,c1,c2,c3⟩,_,hgX⟩:=HKX.out.box
   go_wp2_with (at_builtin;first
    |(refine A0r stR rfl _ _ rfl w.heap.size _ _ _ rfl HOX.out _ 1 _ _ rfl rfl rfl rfl (by omega) (by unfold maxLen;omega) HBX.out.size ?_;intro v4 w4 hown4 hg4 hb4;have HO4:=hzz hown4;have HB4:=hzz (HBX.out.trans hb4);clear hown4 hg4 hb4))
   go_roundg (n-(p+3))
   case measure=>omega
   case rel=>exact⟨p+3,fuel,m+1,acc++[⟨p,o,ra,rb⟩],by omega,rfl,by go_num,by omega,by omega,hzz (by rw[List.flatMap_append];exact HO4.out),hzz (fun r hr=>by
    rcases List.mem_append.1 hr with h|h
    ·exact HW.out r h
    rw[List.mem_singleton.1 h];exact HWF.out),HB4,HDN⟩
  have HV:Hid ((A5y bs ((p:Int)+1) 1).1=A2e bs p 9):=hzz rfl;have HU:=hzz (A2b bs ((p:Int)+1) 1);have hsm:=A2a bs ((p:Int)+1) 1 1 (by decide) (by decide)
  have HC:=hzz (fun w' (h:Below w.heap.size w w')=>A4z w' (some ⟨b,off,none⟩) n cap bs ((p:Int)+1) 1 (HS.out.below h) (by omega) hcap (by unfold A5r;omega) (by unfold A5r;omega))
  rw[HV.out]at HC HU hsm;generalize(A5y bs ((p:Int)+1) 1).2=e2 at*;have HRA:Hid (A1n bs p 9=A2e bs p 9):=hzz (by unfold A1n;simp)
  have HRB:Hid (A2i bs p 9=0):=hzz (by unfold A2i;simp);have HBD:Hid (A1z bs p 9=(!(A1n bs p 9==8)&& !(A1n bs p 9==10))):=hzz (by unfold A1z;simp)
  obtain⟨ra,hra⟩:∃x,x=A1n bs p 9:=⟨_,rfl⟩;obtain⟨rb,hrb⟩:∃y,y=A2i bs p 9:=⟨_,rfl⟩;rw[<-hra]at HRA HNX HWF HBD;rw[<-hrb]at HRB HNX;obtain rfl:s=2:=HSZ.out;clear hra hrb HV HNO
  generalize A2e bs p 9=v at*;rw[show((256^1:Nat):Int)=256 from rfl]at hsm;have hv0:=HU.out.1;by_cases h1:n-p<2
  ·have HQ:=hzz (show R=(6,[]) by rw[HR.out];exact A3c H4.out (by rw[HD.out];exact HSH.out (by decide) h1) (by decide));have e2':decide ((n:Int) -p<2)=true:=by simp;omega
   clear HSH HBA HNX
   go_wp2_with fail
   go_ret2;exact A2d.err HQ.out HAL.out
  have e2':decide ((n:Int) -p<2)=false:=by simp;omega
  have HSN:=hzz h1;have hpn:p+2<=n:=by omega
  clear h1
  go_wp2_with fail
  refine(HC.out _ HAL.out).mono ?_;rintro e w' ⟨rfl,rfl⟩
  go_wp2_with fail
  refine(HFM.out _).mono ?_;rintro e w' ⟨rfl,rfl⟩
  go_upto_region 27 with fail
  have HKX:=hzz (show A8d (W.setCell ⟨g,2,none⟩ (.int .i64 v)) g p o ra rb by rw[HRA.out,HRB.out];exact HKA.out.set2)
  have HWX:=hzz (show Below g wr (W.setCell ⟨g,2,none⟩ (.int .i64 v))from HWW.out.setCell (p:=⟨g,2,none⟩) nlz _);clear c0 c1 c2 c3 f2 f3;generalize(W.setCell ⟨g,2,none⟩ (.int .i64 v))=X at*
  have HBX:=hzz (HB.out.trans (HWX.out.mono (by rw[<-HG0.out];exact HB.out.size)));have HOX:=hzz (A1p HO.out (by rw[HG0.out];exact HWX.out));clear HKA HWW
  obtain⟨⟨c0,c1,c2,c3⟩,_,hgX0⟩:=HKX.out.box
  go_wp2_with fail
  refine(HFM.out _).mono ?_;rintro e w' ⟨rfl,rfl⟩;by_cases h8:ra=8
  ·have e8:(ra !=8)=false:=by simp[h8]
   have HBF:=hzz (show A1z bs p 9=false by rw[HBD.out];simp[h8]);clear h8 HBD c0 c1 c2 c3 hgX0;have HDN:=hzz (HD.out.trans (HNX.out (by decide) HSN.out HBF.out))
   obtain⟨⟨c0,c1,c2,c3⟩,_,hgX⟩:=HKX.out.box
   go_wp2_with (at_builtin;first
    |(refine A0r stR rfl _ _ rfl w.heap.size _ _ _ rfl HOX.out _ 1 _ _ rfl rfl rfl rfl (by omega) (by unfold maxLen;omega) HBX.out.size ?_;intro v4 w4 hown4 hg4 hb4;have HO4:=hzz hown4;have HB4:=hzz (HBX.out.trans hb4);clear hown4 hg4 hb4))
   go_roundg (n-(p+2))
   case measure=>omega
   case rel=>exact⟨p+2,fuel,m+1,acc++[⟨p,o,ra,rb⟩],by omega,rfl,by go_num,by omega,by omega,hzz (by rw[List.flatMap_append];exact HO4.out),hzz (fun r hr=>by
    rcases List.mem_append.1 hr with h|h
    ·exact HW.out r h
    rw[List.mem_singleton.1 h];exact HWF.out),HB4,HDN⟩
  have e8:(ra !=8)=true:=by simp[h8]
  by_cases h10:ra=10
  ·have e10:(ra !=10)=false:=by simp[h10]
   have HBF:=hzz (show A1z bs p 9=false by rw[HBD.out];simp[h10]);clear h8 h10 HBD c0 c1 c2 c3 hgX0;have HDN:=hzz (HD.out.trans (HNX.out (by decide) HSN.out HBF.out))
   obtain⟨⟨c0,c1,c2,c3⟩,_,hgX⟩:=HKX.out.box
   go_wp2_with (at_builtin;first
    |(refine A0r stR rfl _ _ rfl w.heap.size _ _ _ rfl HOX.out _ 1 _ _ rfl rfl rfl rfl (by omega) (by unfold maxLen;omega) HBX.out.size ?_;intro v4 w4 hown4 hg4 hb4;have HO4:=hzz hown4;have HB4:=hzz (HBX.out.trans hb4);clear hown4 hg4 hb4))
   go_roundg (n-(p+2))
   case measure=>omega
   case rel=>exact⟨p+2,fuel,m+1,acc++[⟨p,o,ra,rb⟩],by omega,rfl,by go_num,by omega,by omega,hzz (by rw[List.flatMap_append];exact HO4.out),hzz (fun r hr=>by
    rcases List.mem_append.1 hr with h|h
    ·exact HW.out r h
    rw[List.mem_singleton.1 h];exact HWF.out),HB4,HDN⟩
  have e10:(ra !=10)=true:=by simp[h10]
  have HQ:=hzz (show R=(8,[]) by rw[HR.out];exact A3c H4.out (by rw[HD.out];exact HBA.out (by decide) HSN.out (by rw[HBD.out];simp[h8,h10])) (by decide));clear h8 h10 HBD
  go_wp2_with fail
  go_ret2;exact A2d.err HQ.out HBX.out
 obtain rfl:p=n:=by omega
 have HDE:=hzz (HD.out.trans (B4g bs fuel p acc (by rw[HLn.out];exact Nat.le_refl _)));obtain⟨va,vc,rfl,hss,hcc⟩:=Ss.ofOwn RW.cells_length (by decide) HO.out
 have HG:=hzz (fun w' (hb:Below wr.heap.size wr w')=>C4b w' va m vc acc (Rs.below hss hb) (by omega) (fun r hr=>(HW.out r hr).2.2));clear hss
 go_wp2_with fail
 refine(HG.out _ brz).mono ?_;rintro e w3 ⟨rfl,hb3⟩;have HB3:=btz HB hb3;have HO3:=hzz (A1p HO.out hb3);clear hb3
 cases hg:A7b acc
 ·have HQ:=hzz (show R=(2,[]) by rw[HR.out];exact B3v H4.out HDE.out hg);clear hg
  go_wp2_with fail
  go_ret2;exact A2d.err HQ.out HB3.out
 have HQ:=hzz (show R=(0,acc) by rw[HR.out];exact B6d H4.out HDE.out hg);clear hg
 go_wp2_with fail
 go_ret2;exact⟨_,m,by rw[HQ.out];rfl,by rw[HQ.out];exact HO3.out,by rw[HQ.out];exact HW.out,HB3.out⟩
end
section
open Go.RowKit
theorem C6c(x n:Nat):A6c (x%256^n) n=A6c x n:=by
 have h:=D3f (A6c x n);rw[A9c,A1t]at h;exact h
theorem A6j{x y n:Nat}(h:x%256^n=y%256^n):A6c x n=A6c y n:=by
 rw[<-C6c x n,h,C6c]
theorem D0m(bs:List UInt8)(p f:Nat)(hf:2<=A1r f)(h3:A1r f<=3)(h:p+A1r f<=bs.length):A2e bs p f=((B6r ((bs.drop (p+1)).take (A1r f-1)):Nat):Int):=by
 unfold A2e;have hm:max (A1r f-1) 1=A1r f-1:=by omega
 rw[hm];unfold A5y;rw[if_neg (by omega),if_neg (by omega)];simp only;rw[show((p:Int)+1).toNat=p+1 by omega,Int.toNat_natCast]
theorem D7d(bs:List UInt8)(p s:Nat)(h:p+s<=bs.length):((bs.drop (p+1)).take (s-1)).length=s-1:=by
 simp;omega
theorem D8n(bs:List UInt8)(p s:Nat)(hs:1<=s)(h:p+s<=bs.length):(bs.drop p).take s=[UInt8.ofNat (A3w bs p)]++(bs.drop (p+1)).take (s-1):=by
 have hp:p<bs.length:=by omega
 have e:UInt8.ofNat (A3w bs p)=bs[p]:=by
  unfold A3w;simp[List.getD,hp]
 obtain⟨k,rfl⟩:∃k,s=k+1:=⟨s-1,by omega⟩;rw[e,List.drop_eq_getElem_cons hp,List.take_succ_cons];rfl
theorem E0z(bs:List UInt8)(p:Nat)(h0:A0q (A3w bs p)≠0)(h:p+A1r (A0q (A3w bs p))<=bs.length):A4m (A7s bs p)=(bs.drop p).take (A1r (A0q (A3w bs p))):=by
 have h9:=A3s (A3w bs p);have h1:=A8e h0 h9;rw[D8n bs p _ h1 h];have hte:=D0m bs p (A0q (A3w bs p));have hrl:=D7d bs p (A1r (A0q (A3w bs p))) h
 have hpg:=D3f ((bs.drop (p+1)).take (A1r (A0q (A3w bs p)) -1));have hgl:=B8y ((bs.drop (p+1)).take (A1r (A0q (A3w bs p)) -1));rw[hrl]at hpg hgl;have hs3:=B1q (A0q (A3w bs p))
 unfold A7s A4m;simp only;generalize A0q (A3w bs p)=f at*;generalize(bs.drop (p+1)).take (A1r f-1)=cs at*;generalize B6r cs=v at*
 have hfc:f=1\/f=2\/f=3\/f=4\/f=5\/f=6\/f=7\/f=8\/f=9:=by omega
 rw[show(UInt8.ofNat (A3w bs p)::(if f=7 then A6c (A5z (A1n bs p f-p)) 2 else if f=8 then A6c (A5z (A1n bs p f)) 1++A6c (A5z (A2i bs p f)) 1 else A6c (A5z (A1n bs p f)) (A1r f-1)))=[UInt8.ofNat (A3w bs p)]++(if f=7 then A6c (A5z (A1n bs p f-p)) 2 else if f=8 then A6c (A5z (A1n bs p f)) 1++A6c (A5z (A2i bs p f)) 1 else A6c (A5z (A1n bs p f)) (A1r f-1))from rfl]
 congr 1;unfold A1n A2i
 rcases hfc with rfl|rfl|rfl|rfl|rfl|rfl|rfl|rfl|rfl
 ·rw[<-hpg];rfl
 all_goals
  have hv:=hte (by decide) (by decide) h
  first
   |(rw[show A1r 2=2 from rfl]at hpg hgl⊢)
   |(rw[show A1r 3=2 from rfl]at hpg hgl⊢)
   |(rw[show A1r 4=3 from rfl]at hpg hgl⊢)
   |(rw[show A1r 5=2 from rfl]at hpg hgl⊢)
   |(rw[show A1r 6=3 from rfl]at hpg hgl⊢)
   |(rw[show A1r 7=3 from rfl]at hpg hgl⊢)
   |(rw[show A1r 8=3 from rfl]at hpg hgl⊢)
   |(rw[show A1r 9=2 from rfl]at hpg hgl⊢)
  rw[hv];clear hte hv hs3
 ·simp only[Nat.reduceSub,Nat.reducePow,reduceIte,Nat.reduceEqDiff]at hpg hgl⊢;rw[<-hpg];exact A6j (by unfold A5z;omega)
 ·simp only[Nat.reduceSub,Nat.reducePow,reduceIte,Nat.reduceEqDiff]at hpg hgl⊢;rw[<-hpg,show A2g (v:Int) 1=((v:Int)+128)%256-128 from rfl];exact A6j (by unfold A5z;omega)
 ·simp only[Nat.reduceSub,Nat.reducePow,reduceIte,Nat.reduceEqDiff]at hpg hgl⊢;rw[<-hpg,show A2g (v:Int) 2=((v:Int)+32768)%65536-32768 from rfl];exact A6j (by unfold A5z;omega)
 ·simp only[Nat.reduceSub,Nat.reducePow,reduceIte,Nat.reduceEqDiff]at hpg hgl⊢;rw[<-hpg];exact A6j (by unfold A5z;omega)
 ·simp only[Nat.reduceSub,Nat.reducePow,reduceIte,Nat.reduceEqDiff]at hpg hgl⊢;rw[<-hpg];exact A6j (by unfold A5z;omega)
 ·simp only[Nat.reduceSub,Nat.reducePow,reduceIte,Nat.reduceEqDiff]at hpg hgl⊢;rw[<-hpg,show A2g (v:Int) 2=((v:Int)+32768)%65536-32768 from rfl];exact A6j (by unfold A5z;omega)
 ·simp only[Nat.reduceSub,Nat.reducePow,reduceIte,Nat.reduceEqDiff]at hpg hgl⊢;rw[<-hpg,show A2g (v:Int) 1=((v:Int)+128)%256-128 from rfl,B0f v 1];congr 1
  ·exact A6j (by unfold A5z;omega)
  rw[B0f _ 0];simp[A6c];congr 1;unfold A5z;omega
 simp only[Nat.reduceSub,Nat.reducePow,reduceIte,Nat.reduceEqDiff]at hpg hgl⊢;rw[<-hpg];exact A6j (by unfold A5z;omega)
theorem D5a(bs:List UInt8)(p f:Nat)(hs:A1r f<=2):A2e bs p f<256:=by
 have h:=A2a bs ((p:Int)+1) ((max (A1r f-1) 1:Nat):Int) 1 (by omega) (by decide);rw[show((256^1:Nat):Int)=256 from rfl]at h;exact h
theorem D6i(bs:List UInt8)(p:Nat)(h0:A0q (A3w bs p)≠0)(hb:A1z bs p (A0q (A3w bs p))=false):A2n (A7s bs p) (A0q (A3w bs p))=true:=by
 have h9:=A3s (A3w bs p);have hv:=B1h bs p (A0q (A3w bs p));have h1:=D5a bs p (A0q (A3w bs p));unfold A7s A2n;simp only;generalize A0q (A3w bs p)=f at*
 have hfc:f=1\/f=2\/f=3\/f=4\/f=5\/f=6\/f=7\/f=8\/f=9:=by omega
 unfold A1z at hb;unfold A1n at hb⊢;unfold A2i
 rcases hfc with rfl|rfl|rfl|rfl|rfl|rfl|rfl|rfl|rfl
 ·simp
 ·have h2:=h1 (by decide);simp;omega
 ·have h2:=B5c (A2e bs p 3);simp;omega
 ·have h2:=B4u (A2e bs p 4);simp;omega
 ·have h2:=h1 (by decide);simp;omega
 ·simp;omega
 ·simp
 ·have h2:=B5c (A2e bs p 8);simp;omega
 simp at hb⊢;by_cases h8:A2e bs p 9=8
 ·exact .inl h8
 exact .inr (hb h8)
theorem C2x(l:List RW)(r:RW)(k:Nat)(h:k<l.length):A3q (l++[r]) k=A3q l k:=by
 unfold A3q;rw[List.getElem?_append_left h,List.take_append_of_le_length (by omega)]
theorem D5t(bs:List UInt8):∀(fuel p:Nat) (acc l:List RW),bs.length<fuel+p->p<=bs.length->A6s acc=bs.take p->(∀k,k<acc.length->A3q acc k=true)->B0c bs fuel p acc=(0,l)->A6s l=bs/\∀k,k<l.length->A3q l k=true:=by
 intro fuel
 induction fuel with
 |zero=>intro p acc l h1 h2;omega
 |succ fuel ih=>
  intro p acc l h1 h2 he hg hd;by_cases hp:bs.length<=p
  ·rw[B4g bs _ p acc hp]at hd
   cases hd
   exact⟨by rw[he,List.take_of_length_le hp],hg⟩
  have hpl:p<bs.length:=by omega
  by_cases h0:A0q (A3w bs p)=0
  ·rw[B4r bs fuel p acc hpl h0]at hd;cases hd
  by_cases hs:bs.length-p<A1r (A0q (A3w bs p))
  ·rw[B3h bs fuel p acc hpl h0 hs]at hd;cases hd
  cases hb:A1z bs p (A0q (A3w bs p))
  ·rw[B2g bs fuel p acc hpl h0 hs hb]at hd;have hsp:=A8e h0 (A3s (A3w bs p));refine ih _ _ _ (by omega) (by omega) ?_ (fun k hk=> ?_) hd
   ·unfold A6s at he⊢;rw[List.flatMap_append,he];simp only[List.flatMap_cons,List.flatMap_nil,List.append_nil];rw[E0z bs p h0 (by omega),<-List.take_add]
   by_cases hk2:k<acc.length
   ·rw[C2x _ _ _ hk2];exact hg k hk2
   have hke:k=acc.length:=by simp at hk;omega
   subst hke;rw[B4x (acc++[A7s bs p]) acc.length (A7s bs p) (by simp),List.take_left,he];have h3:=D6i bs p h0 hb;have h4:(A7s bs p).op=A3w bs p:=rfl;rw[h4,h3];unfold A7s
   simp;omega
  rw[B9r bs fuel p acc hpl h0 hs hb]at hd;cases hd
theorem B9q(bs:List UInt8)(l:List RW)(h:A1y bs=(0,l)):A2f l=(0,bs):=by
 unfold A1y at h;by_cases h4:4096<bs.length
 ·rw[if_pos h4]at h;cases h
 rw[if_neg h4]at h;by_cases he:(B0c bs (bs.length+1) 0 []).1≠0
 ·rw[if_pos he]at h;simp only[Prod.mk.injEq]at h;exact absurd h.1 he
 rw[if_neg he]at h
 cases hg:A7b (B0c bs (bs.length+1) 0 []).2
 ·rw[hg,if_neg (by decide)]at h;cases h
 rw[hg,if_pos rfl]at h;simp only[Prod.mk.injEq,true_and]at h
 have hd:B0c bs (bs.length+1) 0 []=(0,l):=by
  rw[<-h];have:(B0c bs (bs.length+1) 0 []).1=0:=by simpa using he
  exact Prod.ext this rfl
 obtain⟨h5,h6⟩:=D5t bs (bs.length+1) 0 [] l (by omega) (by omega) rfl (fun k hk=>by simp at hk) hd;rw[B9x h6 (by rw[<-h];exact hg) (by rw[h5];exact h4),h5]
end
end Go.Proofs.YtclpkipaehpkdaaGreatDoor
