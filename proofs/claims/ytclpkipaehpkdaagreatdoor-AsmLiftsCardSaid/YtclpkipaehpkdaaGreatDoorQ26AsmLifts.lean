/- asm: own texts, merged (wip/merge3.py). No condition. -/
import Derived.Test.YtclpkipaehpkdaaGreatDoorQ25AsmLifts
set_option linter.unusedVariables false
set_option linter.unusedSimpArgs false
set_option maxRecDepth 100000
set_option maxHeartbeats 64000000
namespace Go.Proofs.YtclpkipaehpkdaaGreatDoor
section
open Go.ChangeShapes Go.WideShapes Go.ChangeAt Go.RowKit Go.Maps
theorem C1i:Tryz.prog.underlying A1f=some (.struct (Tryz.prog.fieldsOf A1f)):=by kernel_rfl
theorem D1i:Tryz.prog.stoodInHeld A1f=false:=by kernel_rfl
theorem B2j:Tryz.prog.eqGuardType Tryz.prog.depth A1f=false:=by kernel_rfl
theorem C8s:(Tryz.prog.fieldsOf A1f).toList.map (fun f=>(f.name,f.type,f.offset))=[("Op",5,0),("N",2,1),("M",3,2),("Class",9,3),("Name",9,4),("Desc",9,5),("Text",9,6)]:=by kernel_rfl
def B0m(x y:IN):Bool:=decide (x.op=y.op∧x.n=y.n∧x.m=y.m∧x.cl=y.cl∧x.nm=y.nm∧x.ds=y.ds∧x.tx=y.tx)
theorem B2n(w:World)(d:Nat)(x y:IN):(Op.equalIn (d+1+1) A1f (.agg x.cells.toArray) (.agg y.cells.toArray)).run Tryz.prog w= .ok (B0m x y) w:=by
 unfold IN.cells;rw[run_equalIn_struct w (d+1) _ _ _ C1i D1i];have hl:=C8s
 match hf:(Tryz.prog.fieldsOf A1f).toList,hl with
 |[f0,f1,f2,f3,f4,f5,f6],hl=>
  simp only[List.map_cons,List.map_nil,List.cons.injEq,Prod.mk.injEq,and_true]at hl;obtain⟨⟨n0,t0,o0⟩,⟨n1,t1,o1⟩,⟨n2,t2,o2⟩,⟨n3,t3,o3⟩,⟨n4,t4,o4⟩,⟨n5,t5,o5⟩,⟨n6,t6,o6⟩⟩:=hl
  simp only[Op.eqFields,n0,n1,n2,n3,n4,n5,n6,t0,t1,t2,t3,t4,t5,t6,o0,o1,o2,o3,o4,o5,o6]
  have b:∀(e:Value) (i:Nat) (t:TypeId) (d':TypeDesc) (cs:Array Value) (w:World),Tryz.prog.underlying t=some d'→(match d' with| .struct _| .array _ _=>false|_=>true)=true→cs[i]? =some e→(part t cs i).run Tryz.prog w= .ok e w:=by
   intro e i t d' cs w h1 h2 h3
   cases d'<;>simp[part,isAgg,run_underlying h1,h3]at h2⊢
  have i0:∀(i:Nat) (cs:Array Value) (w:World) (h:i<cs.size),(part 3 cs i).run Tryz.prog w= .ok cs[i] w:=fun i cs w h=>b _ i _ _ cs w Tryz.underlying3 rfl (Array.getElem?_eq_getElem h)
  have i1:∀(i:Nat) (cs:Array Value) (w:World) (h:i<cs.size),(part 5 cs i).run Tryz.prog w= .ok cs[i] w:=fun i cs w h=>b _ i _ _ cs w Tryz.underlying5 rfl (Array.getElem?_eq_getElem h)
  have i3:∀(i:Nat) (cs:Array Value) (w:World) (h:i<cs.size),(part 2 cs i).run Tryz.prog w= .ok cs[i] w:=fun i cs w h=>b _ i _ _ cs w Tryz.underlying2 rfl (Array.getElem?_eq_getElem h)
  have i4:∀(i:Nat) (cs:Array Value) (w:World) (h:i<cs.size),(part 9 cs i).run Tryz.prog w= .ok cs[i] w:=fun i cs w h=>b _ i _ _ cs w Tryz.underlying9 rfl (Array.getElem?_eq_getElem h)
  by_cases g0:x.op=y.op
  ·by_cases g1:x.n=y.n
   ·by_cases g2:x.m=y.m
    ·by_cases g3:x.cl=y.cl
     ·by_cases g4:x.nm=y.nm
      ·by_cases g5:x.ds=y.ds
       ·by_cases g6:x.tx=y.tx<;>simp[i0,i1,i3,i4,run_equalIn_int _ _ _ _ _ _ _ Tryz.underlying3,run_equalIn_int _ _ _ _ _ _ _ Tryz.underlying2,run_equalIn_int _ _ _ _ _ _ _ Tryz.underlying5,run_equalIn_string _ _ _ _ _ Tryz.underlying9,g0,g1,g2,g3,g4,g5,g6,B0m,A6c]
       ·simp[i0,i1,i3,i4,run_equalIn_int _ _ _ _ _ _ _ Tryz.underlying3,run_equalIn_int _ _ _ _ _ _ _ Tryz.underlying2,run_equalIn_int _ _ _ _ _ _ _ Tryz.underlying5,run_equalIn_string _ _ _ _ _ Tryz.underlying9,g0,g1,g2,g3,g4,g5,B0m,A6c]
      ·simp[i0,i1,i3,i4,run_equalIn_int _ _ _ _ _ _ _ Tryz.underlying3,run_equalIn_int _ _ _ _ _ _ _ Tryz.underlying2,run_equalIn_int _ _ _ _ _ _ _ Tryz.underlying5,run_equalIn_string _ _ _ _ _ Tryz.underlying9,g0,g1,g2,g3,g4,B0m,A6c]
     ·simp[i0,i1,i3,i4,run_equalIn_int _ _ _ _ _ _ _ Tryz.underlying3,run_equalIn_int _ _ _ _ _ _ _ Tryz.underlying2,run_equalIn_int _ _ _ _ _ _ _ Tryz.underlying5,run_equalIn_string _ _ _ _ _ Tryz.underlying9,g0,g1,g2,g3,B0m,A6c]
    ·simp[i0,i1,i3,run_equalIn_int _ _ _ _ _ _ _ Tryz.underlying3,run_equalIn_int _ _ _ _ _ _ _ Tryz.underlying2,run_equalIn_int _ _ _ _ _ _ _ Tryz.underlying5,g0,g1,g2,B0m]
   ·simp[i1,i3,run_equalIn_int _ _ _ _ _ _ _ Tryz.underlying2,run_equalIn_int _ _ _ _ _ _ _ Tryz.underlying5,g0,g1,B0m]
  ·have g0':¬(x.op:Int)=(y.op:Int):=by omega
   simp[i1,run_equalIn_int _ _ _ _ _ _ _ Tryz.underlying5,g0,g0',B0m]
 |[],hl|[_],hl|[_,_],hl|[_,_,_],hl|[_,_,_,_],hl|[_,_,_,_,_],hl|[_,_,_,_,_,_],hl|_::_::_::_::_::_::_::_::_,hl=>simp at hl
theorem C5p(w:World)(x:IN)(hop:x.op<256):Calls Tryz.prog 120 #[.agg x.cells.toArray] w fun e w'=>e= .returned (.bool (B6y x))∧Below w.heap.size w w':=by
 have HF:=Lib.hid (fun w=>B1x w x.op hop);obtain⟨f,hf⟩:∃f,f=A0q x.op:=⟨_,rfl⟩;rw[←hf]at HF;obtain⟨R,hR⟩:∃R,R=B6y x:=⟨_,rfl⟩;rw[←hR];unfold B6y at hR;rw[←hf]at hR
 have HR:=Lib.hid hR;have HEQ:=fun W (y:IN)=>B2n W 9998 x y
 clear hf hR hop;obtain⟨op,n,m,cl,nm,ds,tx⟩:=x;dsimp only[IN.cells]at HR HEQ HF⊢;have hgd:=B2j;go_enter Tryz.func120,Tryz.ntmps120
 go_wp2_with fail
 refine(HF.out _).mono ?_;rintro e w1 ⟨rfl,hb1⟩
 have hxa:((w.alloc (.cells #[.int .u8 (op:Nat),.int .i64 n,.int .i64 m,.string ⟨cl.toArray⟩,.string ⟨nm.toArray⟩,.string ⟨ds.toArray⟩,.string ⟨tx.toArray⟩] A1f)).alloc (.cells #[.int .u8 (op:Nat),.int .i64 n,.int .i64 0,.string ⟨#[]⟩,.string ⟨#[]⟩,.string ⟨#[]⟩,.string ⟨#[]⟩] A1f)).heap[w.heap.size]? =some (.cells #[.int .u8 (op:Nat),.int .i64 n,.int .i64 m,.string ⟨cl.toArray⟩,.string ⟨nm.toArray⟩,.string ⟨ds.toArray⟩,.string ⟨tx.toArray⟩] A1f (0,0)):=by
  rw[Below.heap_alloc _ _ _ (by simp)];exact heap_alloc_last w _
 have hya:=heap_alloc_last (w.alloc (.cells #[.int .u8 (op:Nat),.int .i64 n,.int .i64 m,.string ⟨cl.toArray⟩,.string ⟨nm.toArray⟩,.string ⟨ds.toArray⟩,.string ⟨tx.toArray⟩] A1f)) (.cells #[.int .u8 (op:Nat),.int .i64 n,.int .i64 0,.string ⟨#[]⟩,.string ⟨#[]⟩,.string ⟨#[]⟩,.string ⟨#[]⟩] A1f)
 have hsz:(w.alloc (.cells #[.int .u8 (op:Nat),.int .i64 n,.int .i64 m,.string ⟨cl.toArray⟩,.string ⟨nm.toArray⟩,.string ⟨ds.toArray⟩,.string ⟨tx.toArray⟩] A1f)).heap.size=w.heap.size+1:=by simp
 rw[hsz]at hya;have HB1:=Lib.hid ((((Below.refl w.heap.size w).alloc (Nat.le_refl _) _).alloc (by simp) _).trans (hb1.mono (by simp;omega)))
 have HXB:=Lib.hid (show A3w w.heap.size ⟨op,n,m,cl,nm,ds,tx⟩ w1 from A0c hxa hb1);have HYB:=Lib.hid (show A3w (w.heap.size+1) ⟨op,n,0,[],[],[],[]⟩ w1 from A0c hya hb1)
 clear hxa hya hb1 hsz;obtain⟨i0,i1,i2,i3,i4,i5,i6,-,-,-,-,-,-⟩:=HXB.out.box;obtain⟨j0,j1,j2,j3,j4,j5,j6,f1,f2,f3,f4,f5,f6⟩:=HYB.out.box
 dsimp only at i0 i1 i2 i3 i4 i5 i6 j0 j1 j2 j3 j4 j5 j6;by_cases f8:f=8
 ·have e8:((f:Int)==8)=true:=by subst f8;rfl
  have he:∀W,(Op.equalIn 10000 A1f (.agg #[.int .u8 (op:Nat),.int .i64 n,.int .i64 m,.string ⟨cl.toArray⟩,.string ⟨nm.toArray⟩,.string ⟨ds.toArray⟩,.string ⟨tx.toArray⟩]) (.agg #[.int .u8 (op:Nat),.int .i64 n,.int .i64 m,.string ⟨#[]⟩,.string ⟨#[]⟩,.string ⟨#[]⟩,.string ⟨#[]⟩])).run Tryz.prog W= .ok R W:=fun W=>by
   have h:=HEQ W ⟨op,n,m,[],[],[],[]⟩;rw[show B0m ⟨op,n,m,cl,nm,ds,tx⟩ ⟨op,n,m,[],[],[],[]⟩=R by rw[HR.out];unfold B0m;simp[f8]]at h;exact h
  clear HEQ f8
  go_wp2_with fail
  go_ret;exact⟨rfl,HB1.out.setCell (show w.heap.size≤w.heap.size+1 by omega) _⟩
 ·have e8:((f:Int)==8)=false:=by rw[beq_eq_false_iff_ne];omega
  have he:∀W,(Op.equalIn 10000 A1f (.agg #[.int .u8 (op:Nat),.int .i64 n,.int .i64 m,.string ⟨cl.toArray⟩,.string ⟨nm.toArray⟩,.string ⟨ds.toArray⟩,.string ⟨tx.toArray⟩]) (.agg #[.int .u8 (op:Nat),.int .i64 n,.int .i64 0,.string ⟨#[]⟩,.string ⟨#[]⟩,.string ⟨#[]⟩,.string ⟨#[]⟩])).run Tryz.prog W= .ok R W:=fun W=>by
   have h:=HEQ W ⟨op,n,0,[],[],[],[]⟩;rw[show B0m ⟨op,n,m,cl,nm,ds,tx⟩ ⟨op,n,0,[],[],[],[]⟩=R by rw[HR.out];unfold B0m;simp[f8]]at h;exact h
  clear HEQ f8
  go_wp2_with fail
  go_ret;exact⟨rfl,HB1.out⟩
theorem B6a(n:Int):IntKind.i32.wrap n=A4e n:=by
 unfold A4e IntKind.wrap;simp[IntKind.bits,IntKind.signed];omega
theorem C0x(w:World)(B g:Nat)(s:LW)(n:Int)(h:LoS w B g s):Calls Tryz.prog 121 #[.pointer (some ⟨g,0,none⟩),.int .i64 n] w (B2r (.int .i64 (A4e n)) B g (s.need (A8a n) 8) w):=by
 have HN:=Lib.hid (fun ok=>A0y w B g s ok 8 h);obtain⟨R,hR⟩:∃R,R=A8a n:=⟨_,rfl⟩;rw[←hR];unfold A8a at hR;obtain⟨q,hq⟩:∃q,q=A4e n:=⟨_,rfl⟩;rw[←hq]
 have hw:IntKind.i32.wrap n=q:=by rw[hq];exact B6a n
 have hqb: -2147483648≤q∧q≤2147483647:=by rw[hq];unfold A4e;omega
 obtain⟨q0,q1⟩:=hqb;have hw2:IntKind.i64.wrap q=q:=by rw[IntKind.wrap_i64];omega
 clear h hq;by_cases h1: -2147483648≤n
 ·have d1:decide (-2147483648≤n)=true:=decide_eq_true h1;by_cases h2:n<2147483648
  ·have d2:decide (n<2147483648)=true:=decide_eq_true h2;have hRR:R=true:=by rw[hR];exact decide_eq_true (by omega)
   subst hRR;clear hR;go_enter Tryz.func121,Tryz.ntmps121
   go_wp2_with fail
   refine(HN.out true).mono ?_;rintro e w1 ⟨rfl,hs,hk⟩
   go_wp2_with fail
   go_ret;exact⟨rfl,hs,hk⟩
  ·have d2:decide (n<2147483648)=false:=decide_eq_false h2;have hRR:R=false:=by rw[hR];exact decide_eq_false (by omega)
   subst hRR;clear hR;go_enter Tryz.func121,Tryz.ntmps121
   go_wp2_with fail
   refine(HN.out false).mono ?_;rintro e w1 ⟨rfl,hs,hk⟩
   go_wp2_with fail
   go_ret;exact⟨rfl,hs,hk⟩
 ·have d1:decide (-2147483648≤n)=false:=decide_eq_false h1;have hRR:R=false:=by rw[hR];exact decide_eq_false (by omega)
  subst hRR;clear hR;go_enter Tryz.func121,Tryz.ntmps121
  go_wp2_with fail
  refine(HN.out false).mono ?_;rintro e w1 ⟨rfl,hs,hk⟩
  go_wp2_with fail
  go_ret;exact⟨rfl,hs,hk⟩
theorem A3w.keepL{B g:Nat}{x:IN}{w w':World}(h:A3w g x w)(hk:A0x B w w'):A3w g x w':=hk.row h (by decide) (by decide)
structure A9c(x:IN):Prop where
 op:x.op<256
 n:A3m x.n
 m:A3m x.m
 cl:x.cl.length≤65536
 nm:x.nm.length≤65536
 ds:x.ds.length≤65536
 tx:x.tx.length≤65536
theorem A5n(w:World)(B g:Nat)(s:LW)(x:IN)(tag:Int)(fis:Nat)(p:List UInt8→Bool)
  (hen:∀(args:Array Value) (W:World),(callFunc fis args).run Tryz.prog W= .ok (.enter fis args) W)
  (hp:∀(W:World) (s:List UInt8),s.length≤65536→VW W→Calls Tryz.prog fis #[.string ⟨s.toArray⟩] W fun e w'=>e= .returned (.bool (p s))∧Below W.heap.size W w')
  (h:LoS w B g s) (hf:A9c x) (hn:s.l.length≤1000000000050) (hB:B≤w.heap.size) (htag:0<tag∧tag≤65536):
  Calls Tryz.prog 155 #[.pointer (some ⟨g,0,none⟩),.agg x.cells.toArray,.int .i64 tag,.func (.func fis) #[] #[]] w (B2r (.int .i64 ((s.member x tag p).2:Nat)) B g (s.member x tag p).1 w):=by
 have hvw:VW w:=by obtain⟨a,cap,b,h⟩:=h;exact h.vw
 have HF:=Lib.hid hf;have hb1:Below w.heap.size w (w.alloc (.cells x.cells.toArray A1f)):=A0e _ _;have HS1:=Lib.hid (h.below hb1)
 have HK0:=Lib.hid (A0x.of hb1:A0x B w (w.alloc (.cells x.cells.toArray A1f)));have HXB:=Lib.hid (show A3w w.heap.size x (w.alloc (.cells x.cells.toArray A1f))from heap_alloc_last w _)
 have HV1:=Lib.hid (hvw.below hb1);have hB1:B≤(w.alloc (.cells x.cells.toArray A1f)).heap.size:=HK0.out.bnd hB;unfold LW.member;dsimp only;obtain⟨R,hR⟩:∃R,R=(A7v x.nm&&p x.ds):=⟨_,rfl⟩
 rw[←hR];have HR:=hR;clear hR h hf hvw hb1;have HI1:=Lib.hid (fun W (hv:VW W)=>A5m W x.nm HF.out.nm hv);have HI2:=Lib.hid (fun W (hv:VW W)=>hp W x.ds HF.out.ds hv)
 generalize A7v x.nm=x1 at*;generalize p x.ds=x2 at*;clear hp;obtain⟨op,n,m,cl,nm,ds,tx⟩:=x;obtain⟨t0,t1⟩:=htag;dsimp only[IN.cells]at HS1 HK0 HXB HV1 hB1 HI1 HI2 HF⊢
 go_enter Tryz.func155,Tryz.ntmps155
 go_upto_region 1 with fail
 generalize w.alloc (.cells #[.int .u8 (op:Nat),.int .i64 n,.int .i64 m,.string ⟨cl.toArray⟩,.string ⟨nm.toArray⟩,.string ⟨ds.toArray⟩,.string ⟨tx.toArray⟩] A1f)=W at*
 obtain⟨j0,j1,j2,j3,j4,j5,j6,-,-,-,-,-,-⟩:=HXB.out.box;dsimp only at j0 j1 j2 j3 j4 j5 j6;have HN:=Lib.hid (fun W2 ok (hb:Below W.heap.size W W2)=>A0y W2 B g s ok 8 (HS1.out.below hb))
 go_wp2_with fail
 refine(HI1.out W HV1.out).mono ?_;rintro e w2 ⟨rfl,hb2⟩;have HB2:=Lib.hid hb2;clear hb2 j0 j1 j2 j3 j4 j5 j6
 cases x1
 ·have hR:R=false:=HR;subst hR;clear HR
  go_wp2_with fail
  refine(HN.out w2 false HB2.out).mono ?_;rintro e w3 ⟨rfl,hs3,hk3⟩;have HK3:=Lib.hid ((A0x.of HB2.out).trans hk3);have HX3:=Lib.hid ((HXB.out.below HB2.out).keepL hk3)
  have HC:=Lib.hid (A4r w3 B g _ cl false hs3 HF.out.cl (show s.l.length≤_ by omega) (HK3.out.bnd hB1))
  have hl4:((s.need false 8).cls cl false).1.l.length≤s.l.length+4:=A7r (s.need false 8) cl false;have hi4:((s.need false 8).cls cl false).2<((s.need false 8).cls cl false).1.l.length:=B0r _ _
  generalize(s.need false 8).cls cl false=C4 at*;obtain⟨s4,i4⟩:=C4;dsimp only at hl4 hi4 HC⊢;obtain⟨j0,j1,j2,j3,j4,j5,j6,-,-,-,-,-,-⟩:=HX3.out.box;dsimp only at j0 j1 j2 j3 j4 j5 j6
  clear hs3 hk3
  go_wp2_with fail
  refine HC.out.mono ?_;rintro e w4 ⟨rfl,hs4,hk4⟩;have HK4:=Lib.hid (HK3.out.trans hk4);have HX4:=Lib.hid (HX3.out.keepL hk4)
  have HTN:=Lib.hid (A3b w4 B g s4 nm hs4 HF.out.nm (by omega) (HK4.out.bnd hB1));have hl5:(s4.text nm).1.l.length≤s4.l.length+2:=A2h _ _
  have hi5:(s4.text nm).2<(s4.text nm).1.l.length:=B0r _ _;generalize s4.text nm=C5 at*;obtain⟨s5,i5⟩:=C5;dsimp only at hl5 hi5 HTN⊢;clear hs4 hk4 HC HK3 HX3 j0 j1 j2 j3 j4 j5 j6
  obtain⟨j0,j1,j2,j3,j4,j5,j6,-,-,-,-,-,-⟩:=HX4.out.box;dsimp only at j0 j1 j2 j3 j4 j5 j6
  go_wp2_with fail
  refine HTN.out.mono ?_;rintro e w5 ⟨rfl,hs5,hk5⟩;have HK5:=Lib.hid (HK4.out.trans hk5);have HX5:=Lib.hid (HX4.out.keepL hk5)
  have HTD:=Lib.hid (A3b w5 B g s5 ds hs5 HF.out.ds (by omega) (HK5.out.bnd hB1));have hl6:(s5.text ds).1.l.length≤s5.l.length+2:=A2h _ _
  have hi6:(s5.text ds).2<(s5.text ds).1.l.length:=B0r _ _;generalize s5.text ds=C6 at*;obtain⟨s6,i6⟩:=C6;dsimp only at hl6 hi6 HTD⊢;clear hs5 hk5 HTN HK4 HX4 j0 j1 j2 j3 j4 j5 j6
  obtain⟨j0,j1,j2,j3,j4,j5,j6,-,-,-,-,-,-⟩:=HX5.out.box;dsimp only at j0 j1 j2 j3 j4 j5 j6
  go_wp2_with fail
  refine HTD.out.mono ?_;rintro e w6 ⟨rfl,hs6,hk6⟩;have HK6:=Lib.hid (HK5.out.trans hk6)
  have HP:=Lib.hid (A4q w6 B g s6 ⟨12,(i5:Nat),(i6:Nat),0,[]⟩ hs6 (A7t (by omega) (by omega) (by omega) (A1i (by omega))) (show(12:Int)≠0 by decide) (by omega) (HK6.out.bnd hB1))
  have hl7:(s6.put ⟨12,(i5:Nat),(i6:Nat),0,[]⟩).1.l.length≤s6.l.length+2:=A8v _ _
  have hi7:(s6.put ⟨12,(i5:Nat),(i6:Nat),0,[]⟩).2<(s6.put ⟨12,(i5:Nat),(i6:Nat),0,[]⟩).1.l.length:=B0r _ _;generalize s6.put ⟨12,(i5:Nat),(i6:Nat),0,[]⟩=C7 at*
  obtain⟨s7,i7⟩:=C7;dsimp only[KV.cells]at hl7 hi7 HP⊢;clear hs6 hk6 HTD HK5 HX5 j0 j1 j2 j3 j4 j5 j6
  go_wp2_with fail
  refine HP.out.mono ?_;rintro e w7 ⟨rfl,hs7,hk7⟩;have HK7:=Lib.hid (HK6.out.trans hk7)
  have HQ:=Lib.hid (A4q w7 B g s7 ⟨tag,(i4:Nat),(i7:Nat),0,[]⟩ hs7 (A7t (by omega) (by omega) (by omega) (A1i (by omega))) (show tag≠0 by omega) (by omega) (HK7.out.bnd hB1))
  generalize s7.put ⟨tag,(i4:Nat),(i7:Nat),0,[]⟩=C8 at*;obtain⟨s8,i8⟩:=C8;dsimp only[KV.cells]at HQ⊢;clear hs7 hk7 HP HK6
  go_wp2_with fail
  refine HQ.out.mono ?_;rintro e w8 ⟨rfl,hs8,hk8⟩
  go_wp2_with fail
  go_ret;exact⟨rfl,hs8,HK0.out.trans (HK7.out.trans hk8)⟩
 ·have hR:R=x2:=HR;subst hR;clear HR;obtain⟨j0,j1,j2,j3,j4,j5,j6,-,-,-,-,-,-⟩:=(HXB.out.below HB2.out).box;dsimp only at j0 j1 j2 j3 j4 j5 j6
  go_wp2_with fail
  refine(HI2.out w2 (HV1.out.below HB2.out)).mono ?_;rintro e w9 ⟨rfl,hb3⟩;have HB3:=Lib.hid (HB2.out.trans (hb3.mono HB2.out.size));clear hb3 j0 j1 j2 j3 j4 j5 j6
  go_wp2_with fail
  refine(HN.out w9 R HB3.out).mono ?_;rintro e w3 ⟨rfl,hs3,hk3⟩;have HK3:=Lib.hid ((A0x.of HB3.out).trans hk3);have HX3:=Lib.hid ((HXB.out.below HB3.out).keepL hk3)
  have HC:=Lib.hid (A4r w3 B g _ cl false hs3 HF.out.cl (show s.l.length≤_ by omega) (HK3.out.bnd hB1))
  have hl4:((s.need R 8).cls cl false).1.l.length≤s.l.length+4:=A7r (s.need R 8) cl false;have hi4:((s.need R 8).cls cl false).2<((s.need R 8).cls cl false).1.l.length:=B0r _ _
  generalize(s.need R 8).cls cl false=C4 at*;obtain⟨s4,i4⟩:=C4;dsimp only at hl4 hi4 HC⊢;obtain⟨j0,j1,j2,j3,j4,j5,j6,-,-,-,-,-,-⟩:=HX3.out.box;dsimp only at j0 j1 j2 j3 j4 j5 j6
  clear hs3 hk3
  go_wp2_with fail
  refine HC.out.mono ?_;rintro e w4 ⟨rfl,hs4,hk4⟩;have HK4:=Lib.hid (HK3.out.trans hk4);have HX4:=Lib.hid (HX3.out.keepL hk4)
  have HTN:=Lib.hid (A3b w4 B g s4 nm hs4 HF.out.nm (by omega) (HK4.out.bnd hB1));have hl5:(s4.text nm).1.l.length≤s4.l.length+2:=A2h _ _
  have hi5:(s4.text nm).2<(s4.text nm).1.l.length:=B0r _ _;generalize s4.text nm=C5 at*;obtain⟨s5,i5⟩:=C5;dsimp only at hl5 hi5 HTN⊢;clear hs4 hk4 HC HK3 HX3 j0 j1 j2 j3 j4 j5 j6
  obtain⟨j0,j1,j2,j3,j4,j5,j6,-,-,-,-,-,-⟩:=HX4.out.box;dsimp only at j0 j1 j2 j3 j4 j5 j6
  go_wp2_with fail
  refine HTN.out.mono ?_;rintro e w5 ⟨rfl,hs5,hk5⟩;have HK5:=Lib.hid (HK4.out.trans hk5);have HX5:=Lib.hid (HX4.out.keepL hk5)
  have HTD:=Lib.hid (A3b w5 B g s5 ds hs5 HF.out.ds (by omega) (HK5.out.bnd hB1));have hl6:(s5.text ds).1.l.length≤s5.l.length+2:=A2h _ _
  have hi6:(s5.text ds).2<(s5.text ds).1.l.length:=B0r _ _;generalize s5.text ds=C6 at*;obtain⟨s6,i6⟩:=C6;dsimp only at hl6 hi6 HTD⊢;clear hs5 hk5 HTN HK4 HX4 j0 j1 j2 j3 j4 j5 j6
  obtain⟨j0,j1,j2,j3,j4,j5,j6,-,-,-,-,-,-⟩:=HX5.out.box;dsimp only at j0 j1 j2 j3 j4 j5 j6
  go_wp2_with fail
  refine HTD.out.mono ?_;rintro e w6 ⟨rfl,hs6,hk6⟩;have HK6:=Lib.hid (HK5.out.trans hk6)
  have HP:=Lib.hid (A4q w6 B g s6 ⟨12,(i5:Nat),(i6:Nat),0,[]⟩ hs6 (A7t (by omega) (by omega) (by omega) (A1i (by omega))) (show(12:Int)≠0 by decide) (by omega) (HK6.out.bnd hB1))
  have hl7:(s6.put ⟨12,(i5:Nat),(i6:Nat),0,[]⟩).1.l.length≤s6.l.length+2:=A8v _ _
  have hi7:(s6.put ⟨12,(i5:Nat),(i6:Nat),0,[]⟩).2<(s6.put ⟨12,(i5:Nat),(i6:Nat),0,[]⟩).1.l.length:=B0r _ _;generalize s6.put ⟨12,(i5:Nat),(i6:Nat),0,[]⟩=C7 at*
  obtain⟨s7,i7⟩:=C7;dsimp only[KV.cells]at hl7 hi7 HP⊢;clear hs6 hk6 HTD HK5 HX5 j0 j1 j2 j3 j4 j5 j6
  go_wp2_with fail
  refine HP.out.mono ?_;rintro e w7 ⟨rfl,hs7,hk7⟩;have HK7:=Lib.hid (HK6.out.trans hk7)
  have HQ:=Lib.hid (A4q w7 B g s7 ⟨tag,(i4:Nat),(i7:Nat),0,[]⟩ hs7 (A7t (by omega) (by omega) (by omega) (A1i (by omega))) (show tag≠0 by omega) (by omega) (HK7.out.bnd hB1))
  generalize s7.put ⟨tag,(i4:Nat),(i7:Nat),0,[]⟩=C8 at*;obtain⟨s8,i8⟩:=C8;dsimp only[KV.cells]at HQ⊢;clear hs7 hk7 HP HK6
  go_wp2_with fail
  refine HQ.out.mono ?_;rintro e w8 ⟨rfl,hs8,hk8⟩
  go_wp2_with fail
  go_ret;exact⟨rfl,hs8,HK0.out.trans (HK7.out.trans hk8)⟩
theorem B5b(w:World)(B g:Nat)(s:LW)(x:IN)(h:LoS w B g s)(hf:A9c x)(hn:s.l.length≤1000000000050)(hB:B≤w.heap.size):
  Calls Tryz.prog 71 #[.pointer (some ⟨g,0,none⟩),.agg x.cells.toArray] w (B2r (.int .i64 ((s.con x).2:Nat)) B g (s.con x).1 w):=by
 have HF:=Lib.hid hf;have hb1:Below w.heap.size w (w.alloc (.cells x.cells.toArray A1f)):=A0e _ _;have HS1:=Lib.hid (h.below hb1)
 have HK0:=Lib.hid (A0x.of hb1:A0x B w (w.alloc (.cells x.cells.toArray A1f)));have HXB:=Lib.hid (show A3w w.heap.size x (w.alloc (.cells x.cells.toArray A1f))from heap_alloc_last w _)
 obtain⟨R,hR⟩:∃R,R=s.con x:=⟨_,rfl⟩;rw[←hR];have HR:=Lib.hid hR;clear hR h hf hb1;obtain⟨op,n,m,cl,nm,ds,tx⟩:=x;dsimp only[IN.cells]at HS1 HK0 HXB HF HR⊢;by_cases h73:ds=[73]
 ·have d73:(ds==[73])=true:=by rw[h73];rfl
  have d83:(ds==[83])=false:=by rw[h73];rfl
  have d74:(ds==[74])=false:=by rw[h73];rfl
  by_cases h18:op=18
  ·have e18:((op:Int)==18)=true:=by rw[h18];rfl
   by_cases htx:tx=[]
   ·have t1:(tx==[])=true:=by rw[htx];rfl
    have t2:tx.isEmpty=true:=by rw[htx];rfl
    have HRR:=Lib.hid (show R=(s.need (A8a n) 8).put ⟨3,0,0,n,[]⟩ by rw[HR.out];unfold LW.con;rw[if_pos ⟨h73,h18,htx⟩]);clear HR h73 h18 htx;go_enter Tryz.func71,Tryz.ntmps71
    go_upto_region 1 with fail
    generalize w.alloc (.cells #[.int .u8 (op:Nat),.int .i64 n,.int .i64 m,.string ⟨cl.toArray⟩,.string ⟨nm.toArray⟩,.string ⟨ds.toArray⟩,.string ⟨tx.toArray⟩] A1f)=W at*
    obtain⟨j0,j1,j2,j3,j4,j5,j6,-,-,-,-,-,-⟩:=HXB.out.box;dsimp only at j0 j1 j2 j3 j4 j5 j6;obtain⟨b,hb⟩:∃b,b=A8a n:=⟨_,rfl⟩;rw[←hb]at HRR
    obtain⟨q,hq⟩:∃q,q=A4e n:=⟨_,rfl⟩;have hw:IntKind.i32.wrap n=q:=by rw[hq];exact B6a n
    have hqb: -2147483648≤q∧q≤2147483647:=by rw[hq];unfold A4e;omega
    have hqe:(n==q)=b:=by
     rw[hb,hq,Bool.eq_iff_iff,beq_iff_eq];unfold A8a A4e;rw[decide_eq_true_iff];omega
    obtain⟨q0,q1⟩:=hqb;have hw2:IntKind.i64.wrap q=q:=by rw[IntKind.wrap_i64];omega
    have HN:=Lib.hid (A0y W B g s b 8 HS1.out);clear hq hb
    go_wp2_with fail
    refine HN.out.mono ?_;rintro e w3 ⟨rfl,hs3,hk3⟩;have HK3:=Lib.hid (HK0.out.trans hk3);have HX3:=Lib.hid (HXB.out.keepL hk3)
    have HP:=Lib.hid (A4q w3 B g _ ⟨3,0,0,n,[]⟩ hs3 (A7t (by omega) (by omega) (by omega) HF.out.n) (show(3:Int)≠0 by decide) (show s.l.length≤_ by omega) (HK3.out.bnd hB))
    clear hs3 hk3 hw hw2 hqe j0 j1 j2 j3 j4 j5 j6;obtain⟨j0,j1,j2,j3,j4,j5,j6,-,-,-,-,-,-⟩:=HX3.out.box;dsimp only[KV.cells]at j0 j1 j2 j3 j4 j5 j6 HP
    go_wp2_with fail
    refine HP.out.mono ?_;rintro e w4 ⟨rfl,hs4,hk4⟩
    go_wp2_with fail
    go_ret;rw[HRR.out];exact⟨rfl,hs4,HK3.out.trans hk4⟩
   ·have t1:(tx==[])=false:=by simpa using htx
    have t2:tx.isEmpty=false:=by simpa using htx
    have HRR:=Lib.hid (show R=(s.need false 8,0) by rw[HR.out];unfold LW.con;rw[if_neg (fun h=>htx h.2.2),if_neg (fun h=>by rw[h73]at h;simp at h),if_neg (fun h=>by rw[h73]at h;simp at h)])
    clear HR h73 h18 htx;go_enter Tryz.func71,Tryz.ntmps71
    go_upto_region 1 with fail
    generalize w.alloc (.cells #[.int .u8 (op:Nat),.int .i64 n,.int .i64 m,.string ⟨cl.toArray⟩,.string ⟨nm.toArray⟩,.string ⟨ds.toArray⟩,.string ⟨tx.toArray⟩] A1f)=W at*
    obtain⟨j0,j1,j2,j3,j4,j5,j6,-,-,-,-,-,-⟩:=HXB.out.box;dsimp only at j0 j1 j2 j3 j4 j5 j6;have HN:=Lib.hid (A0y W B g s false 8 HS1.out)
    go_wp2_with fail
    refine HN.out.mono ?_;rintro e w3 ⟨rfl,hs3,hk3⟩
    go_wp2_with fail
    go_ret;rw[HRR.out];exact⟨rfl,hs3,HK0.out.trans hk3⟩
  ·have e18:((op:Int)==18)=false:=by rw[beq_eq_false_iff_ne];omega
   have HRR:=Lib.hid (show R=(s.need false 8,0) by rw[HR.out];unfold LW.con;rw[if_neg (fun h=>h18 h.2.1),if_neg (fun h=>by rw[h73]at h;simp at h),if_neg (fun h=>by rw[h73]at h;simp at h)])
   clear HR h73 h18;go_enter Tryz.func71,Tryz.ntmps71
   go_upto_region 1 with fail
   generalize w.alloc (.cells #[.int .u8 (op:Nat),.int .i64 n,.int .i64 m,.string ⟨cl.toArray⟩,.string ⟨nm.toArray⟩,.string ⟨ds.toArray⟩,.string ⟨tx.toArray⟩] A1f)=W at*
   obtain⟨j0,j1,j2,j3,j4,j5,j6,-,-,-,-,-,-⟩:=HXB.out.box;dsimp only at j0 j1 j2 j3 j4 j5 j6;have HN:=Lib.hid (A0y W B g s false 8 HS1.out)
   go_wp2_with fail
   refine HN.out.mono ?_;rintro e w3 ⟨rfl,hs3,hk3⟩
   go_wp2_with fail
   go_ret;rw[HRR.out];exact⟨rfl,hs3,HK0.out.trans hk3⟩
 by_cases h83:ds=[83]
 ·have d73:(ds==[73])=false:=by rw[h83];rfl
  have d83:(ds==[83])=true:=by rw[h83];rfl
  have d74:(ds==[74])=false:=by rw[h83];rfl
  by_cases h18:op=18
  ·have e18:((op:Int)==18)=true:=by rw[h18];rfl
   by_cases hn0:n=0
   ·have t1:(n==0)=true:=by rw[hn0];rfl
    have HRR:=Lib.hid (show R=((s.text tx).1).put ⟨8,((s.text tx).2:Nat),0,0,[]⟩ by rw[HR.out];unfold LW.con;rw[if_neg (fun h=>by rw[h83]at h;simp at h),if_pos ⟨h83,h18,hn0⟩])
    clear HR h83 h18 hn0;go_enter Tryz.func71,Tryz.ntmps71
    go_upto_region 1 with fail
    generalize w.alloc (.cells #[.int .u8 (op:Nat),.int .i64 n,.int .i64 m,.string ⟨cl.toArray⟩,.string ⟨nm.toArray⟩,.string ⟨ds.toArray⟩,.string ⟨tx.toArray⟩] A1f)=W at*
    obtain⟨j0,j1,j2,j3,j4,j5,j6,-,-,-,-,-,-⟩:=HXB.out.box;dsimp only at j0 j1 j2 j3 j4 j5 j6;have HN:=Lib.hid (A3b W B g s tx HS1.out HF.out.tx (by omega) (HK0.out.bnd hB))
    have hl5:(s.text tx).1.l.length≤s.l.length+2:=A2h _ _;have hi5:(s.text tx).2<(s.text tx).1.l.length:=B0r _ _;generalize s.text tx=C5 at*;obtain⟨s5,i5⟩:=C5
    dsimp only at hl5 hi5 HN HRR
    go_wp2_with fail
    refine HN.out.mono ?_;rintro e w3 ⟨rfl,hs3,hk3⟩;have HK3:=Lib.hid (HK0.out.trans hk3)
    have HP:=Lib.hid (A4q w3 B g _ ⟨8,(i5:Nat),0,0,[]⟩ hs3 (A7t (by omega) (by omega) (by omega) (A1i (by omega))) (show(8:Int)≠0 by decide) (by omega) (HK3.out.bnd hB))
    clear hs3 hk3 j0 j1 j2 j3 j4 j5 j6;dsimp only[KV.cells]at HP
    go_wp2_with fail
    refine HP.out.mono ?_;rintro e w4 ⟨rfl,hs4,hk4⟩
    go_wp2_with fail
    go_ret;rw[HRR.out];exact⟨rfl,hs4,HK3.out.trans hk4⟩
   ·have t1:(n==0)=false:=by simpa using hn0
    have HRR:=Lib.hid (show R=(s.need false 8,0) by rw[HR.out];unfold LW.con;rw[if_neg (fun h=>by rw[h83]at h;simp at h),if_neg (fun h=>hn0 h.2.2),if_neg (fun h=>by rw[h83]at h;simp at h)])
    clear HR h83 h18 hn0;go_enter Tryz.func71,Tryz.ntmps71
    go_upto_region 1 with fail
    generalize w.alloc (.cells #[.int .u8 (op:Nat),.int .i64 n,.int .i64 m,.string ⟨cl.toArray⟩,.string ⟨nm.toArray⟩,.string ⟨ds.toArray⟩,.string ⟨tx.toArray⟩] A1f)=W at*
    obtain⟨j0,j1,j2,j3,j4,j5,j6,-,-,-,-,-,-⟩:=HXB.out.box;dsimp only at j0 j1 j2 j3 j4 j5 j6;have HN:=Lib.hid (A0y W B g s false 8 HS1.out)
    go_wp2_with fail
    refine HN.out.mono ?_;rintro e w3 ⟨rfl,hs3,hk3⟩
    go_wp2_with fail
    go_ret;rw[HRR.out];exact⟨rfl,hs3,HK0.out.trans hk3⟩
  ·have e18:((op:Int)==18)=false:=by rw[beq_eq_false_iff_ne];omega
   have HRR:=Lib.hid (show R=(s.need false 8,0) by rw[HR.out];unfold LW.con;rw[if_neg (fun h=>by rw[h83]at h;simp at h),if_neg (fun h=>h18 h.2.1),if_neg (fun h=>by rw[h83]at h;simp at h)])
   clear HR h83 h18;go_enter Tryz.func71,Tryz.ntmps71
   go_upto_region 1 with fail
   generalize w.alloc (.cells #[.int .u8 (op:Nat),.int .i64 n,.int .i64 m,.string ⟨cl.toArray⟩,.string ⟨nm.toArray⟩,.string ⟨ds.toArray⟩,.string ⟨tx.toArray⟩] A1f)=W at*
   obtain⟨j0,j1,j2,j3,j4,j5,j6,-,-,-,-,-,-⟩:=HXB.out.box;dsimp only at j0 j1 j2 j3 j4 j5 j6;have HN:=Lib.hid (A0y W B g s false 8 HS1.out)
   go_wp2_with fail
   refine HN.out.mono ?_;rintro e w3 ⟨rfl,hs3,hk3⟩
   go_wp2_with fail
   go_ret;rw[HRR.out];exact⟨rfl,hs3,HK0.out.trans hk3⟩
 by_cases h74:ds=[74]
 ·have d73:(ds==[73])=false:=by rw[h74];rfl
  have d83:(ds==[83])=false:=by rw[h74];rfl
  have d74:(ds==[74])=true:=by rw[h74];rfl
  by_cases h20:op=20
  ·have e20:((op:Int)==20)=true:=by rw[h20];rfl
   by_cases htx:tx=[]
   ·have t1:(tx==[])=true:=by rw[htx];rfl
    have t2:tx.isEmpty=true:=by rw[htx];rfl
    have HRR:=Lib.hid (show R=s.put ⟨5,0,0,n,[]⟩ by rw[HR.out];unfold LW.con;rw[if_neg (fun h=>by rw[h74]at h;simp at h),if_neg (fun h=>by rw[h74]at h;simp at h),if_pos ⟨h74,h20,htx⟩])
    clear HR h74 h20 htx;go_enter Tryz.func71,Tryz.ntmps71
    go_upto_region 1 with fail
    generalize w.alloc (.cells #[.int .u8 (op:Nat),.int .i64 n,.int .i64 m,.string ⟨cl.toArray⟩,.string ⟨nm.toArray⟩,.string ⟨ds.toArray⟩,.string ⟨tx.toArray⟩] A1f)=W at*
    obtain⟨j0,j1,j2,j3,j4,j5,j6,-,-,-,-,-,-⟩:=HXB.out.box;dsimp only at j0 j1 j2 j3 j4 j5 j6
    have HP:=Lib.hid (A4q W B g s ⟨5,0,0,n,[]⟩ HS1.out (A7t (by omega) (by omega) (by omega) HF.out.n) (show(5:Int)≠0 by decide) (by omega) (HK0.out.bnd hB));dsimp only[KV.cells]at HP
    go_wp2_with fail
    refine HP.out.mono ?_;rintro e w4 ⟨rfl,hs4,hk4⟩
    go_wp2_with fail
    go_ret;rw[HRR.out];exact⟨rfl,hs4,HK0.out.trans hk4⟩
   ·have t1:(tx==[])=false:=by simpa using htx
    have t2:tx.isEmpty=false:=by simpa using htx
    have HRR:=Lib.hid (show R=(s.need false 8,0) by rw[HR.out];unfold LW.con;rw[if_neg (fun h=>by rw[h74]at h;simp at h),if_neg (fun h=>by rw[h74]at h;simp at h),if_neg (fun h=>htx h.2.2)])
    clear HR h74 h20 htx;go_enter Tryz.func71,Tryz.ntmps71
    go_upto_region 1 with fail
    generalize w.alloc (.cells #[.int .u8 (op:Nat),.int .i64 n,.int .i64 m,.string ⟨cl.toArray⟩,.string ⟨nm.toArray⟩,.string ⟨ds.toArray⟩,.string ⟨tx.toArray⟩] A1f)=W at*
    obtain⟨j0,j1,j2,j3,j4,j5,j6,-,-,-,-,-,-⟩:=HXB.out.box;dsimp only at j0 j1 j2 j3 j4 j5 j6;have HN:=Lib.hid (A0y W B g s false 8 HS1.out)
    go_wp2_with fail
    refine HN.out.mono ?_;rintro e w3 ⟨rfl,hs3,hk3⟩
    go_wp2_with fail
    go_ret;rw[HRR.out];exact⟨rfl,hs3,HK0.out.trans hk3⟩
  ·have e20:((op:Int)==20)=false:=by rw[beq_eq_false_iff_ne];omega
   have HRR:=Lib.hid (show R=(s.need false 8,0) by rw[HR.out];unfold LW.con;rw[if_neg (fun h=>by rw[h74]at h;simp at h),if_neg (fun h=>by rw[h74]at h;simp at h),if_neg (fun h=>h20 h.2.1)])
   clear HR h74 h20;go_enter Tryz.func71,Tryz.ntmps71
   go_upto_region 1 with fail
   generalize w.alloc (.cells #[.int .u8 (op:Nat),.int .i64 n,.int .i64 m,.string ⟨cl.toArray⟩,.string ⟨nm.toArray⟩,.string ⟨ds.toArray⟩,.string ⟨tx.toArray⟩] A1f)=W at*
   obtain⟨j0,j1,j2,j3,j4,j5,j6,-,-,-,-,-,-⟩:=HXB.out.box;dsimp only at j0 j1 j2 j3 j4 j5 j6;have HN:=Lib.hid (A0y W B g s false 8 HS1.out)
   go_wp2_with fail
   refine HN.out.mono ?_;rintro e w3 ⟨rfl,hs3,hk3⟩
   go_wp2_with fail
   go_ret;rw[HRR.out];exact⟨rfl,hs3,HK0.out.trans hk3⟩
 have d73:(ds==[73])=false:=by simpa using h73
 have d83:(ds==[83])=false:=by simpa using h83
 have d74:(ds==[74])=false:=by simpa using h74
 have HRR:=Lib.hid (show R=(s.need false 8,0) by rw[HR.out];unfold LW.con;rw[if_neg (fun h=>h73 h.1),if_neg (fun h=>h83 h.1),if_neg (fun h=>h74 h.1)]);clear HR h73 h83 h74
 go_enter Tryz.func71,Tryz.ntmps71
 go_upto_region 1 with fail
 generalize w.alloc (.cells #[.int .u8 (op:Nat),.int .i64 n,.int .i64 m,.string ⟨cl.toArray⟩,.string ⟨nm.toArray⟩,.string ⟨ds.toArray⟩,.string ⟨tx.toArray⟩] A1f)=W at*
 obtain⟨j0,j1,j2,j3,j4,j5,j6,-,-,-,-,-,-⟩:=HXB.out.box;dsimp only at j0 j1 j2 j3 j4 j5 j6;have HN:=Lib.hid (A0y W B g s false 8 HS1.out)
 go_wp2_with fail
 refine HN.out.mono ?_;rintro e w3 ⟨rfl,hs3,hk3⟩
 go_wp2_with fail
 go_ret;rw[HRR.out];exact⟨rfl,hs3,HK0.out.trans hk3⟩
end
end Go.Proofs.YtclpkipaehpkdaaGreatDoor
