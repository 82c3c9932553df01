/- asm -/
import Derived.Test.YtclpkipaehpkdaaGreatDoorQ12AsmBack
set_option linter.unusedVariables false
set_option linter.unusedSimpArgs false
set_option maxRecDepth 100000
set_option maxHeartbeats 64000000
open Go.Proofs.Tryz
namespace Go.Proofs.YtclpkipaehpkdaaGreatDoor
section
open Go.ChangeShapes Go.WideShapes Go.ChangeAt Go.RowKit Go.Maps
theorem yR.bnd{B:Nat}{w w':World}(h:yR B w w')(hB:B<=w.heap.size):B<=w'.heap.size:=Nat.le_trans hB h.size
theorem D7n{t:List UInt8}(h:t.length<=65536):KOk ⟨1,0,0,0,t⟩:=⟨xp (by dsimp only;omega),xp (by dsimp only;omega),xp (by dsimp only;omega),xp (by dsimp only;omega),by show t.length<=_;omega⟩
theorem tD{tag a b n:Int}(ht:0<=tag/\tag<=65536)(ha:0<=a/\a<=1099511627776)(hb:0<=b/\b<=1099511627776)(hn:xZ n):KOk ⟨tag,a,b,n,[]⟩:=⟨xp (by dsimp only;omega),xp (by dsimp only;omega),xp (by dsimp only;omega),hn,by simp⟩
theorem uC(w:World)(B g:Nat)(s:LW)(t:List UInt8)(h:LoS w B g s)(ht:t.length<=65536)(hn:s.l.length<=1099511627776)(hB:B<=w.heap.size):
  Calls prog 35 #[.pointer (some ⟨g,0,none⟩),.string ⟨t.toArray⟩] w (uf (.int .i64 ((s.text t).2:Nat)) B g (s.text t).1 w):=by
 have HP:=Z' (tJ w B g s ⟨1,0,0,0,t⟩ h (D7n ht) (show(1:Int)≠0 by decide) hn hB);have hr:s.text t=s.put ⟨1,0,0,0,t⟩:=rfl;rw[hr];generalize s.put ⟨1,0,0,0,t⟩=r at*;clear hr h;go_enter func35,ntmps35
 go_wp2_with fail
 refine HP.out.mono ?_;rintro e w1 ⟨rfl,hs,hk⟩
 go_wp2_with fail
 go_ret;exact⟨rfl,hs,hk⟩
theorem sG(w:World)(B g:Nat)(s:LW)(t:List UInt8)(arr:Bool)(h:LoS w B g s)(ht:t.length<=65536)(hn:s.l.length<=1000000000100)(hB:B<=w.heap.size):
  Calls prog 32 #[.pointer (some ⟨g,0,none⟩),.string ⟨t.toArray⟩,.bool arr] w (uf (.int .i64 ((s.cls t arr).2:Nat)) B g (s.cls t arr).1 w):=by
 have hvw:VW w:=by obtain⟨a,cap,b,h⟩:=h;exact h.vw
 have HN:=Z' (fun W ok (hb:Below w.heap.size w W)=>xk W B g s ok 8 (h.below hb));have HI:=Z' (fun W (hb:Below w.heap.size w W)=>qH W t (by omega) (hvw.below hb));have HA:=Z' (fun W (hb:Below w.heap.size w W)=>pM W t ht (hvw.below hb));have Zp:=Z' (Below.refl w.heap.size w);have Qq:=Z' ht;unfold LW.cls;obtain⟨R,hR⟩:∃R,R=(classB t||(arr&&x6 t)):=⟨_,rfl⟩;rw[<-hR];have HR:=hR;clear hR;generalize classB t=x1 at*;generalize x6 t=x2 at*;clear h hvw ht
 cases x1
 ·cases arr
  ·have hR:R=false:=HR;subst hR;clear HR;go_enter func32,ntmps32
   go_wp2_with fail
   refine(HI.out w Zp.out).mono ?_;rintro e w2 ⟨rfl,ZN⟩;have ZT:=Z' ZN;clear ZN
   go_wp2_with fail
   refine(HN.out w2 false ZT.out).mono ?_;rintro e w5 ⟨rfl,X',X5⟩;have HT:=Z' (uC w5 B g (s.need false 8) t X' Qq.out (show s.l.length<=_ by omega) (Nat.le_trans hB (Nat.le_trans ZT.out.size X5.size)));have XD:=Z' ((yR.of ZT.out).trans X5);have T3:((s.need false 8).text t).1.l.length<=s.l.length+2:=wq (s.need false 8) t;have Pw:((s.need false 8).text t).2<=s.l.length:=sg (s.need false 8) _;generalize(s.need false 8).text t=T at*;obtain⟨s6,i6⟩:=T;dsimp only at T3 Pw;have UA:=Z' T3;clear X' X5 T3
   go_wp2_with fail
   refine HT.out.mono ?_;rintro e w6 ⟨rfl,XR,Y2⟩;have HP:=Z' (tJ w6 B g s6 ⟨7,(i6:Nat),0,0,[]⟩ XR (tD (by omega) (by omega) (by omega) (xp (by omega))) (show(7:Int)≠0 by decide) (by have:=UA.out;omega) ((XD.out.trans Y2).bnd hB));have XG:=Z' (XD.out.trans Y2);clear XR Y2 HT UA XD;dsimp only[KV.cells]at HP;generalize s6.put ⟨7,(i6:Nat),0,0,[]⟩=Q at*
   go_wp2_with fail
   refine HP.out.mono ?_;rintro e w7 ⟨rfl,Sv,QS⟩
   go_wp2_with fail
   go_ret;exact⟨rfl,Sv,XG.out.trans QS⟩
  have hR:R=x2:=HR;subst hR;clear HR;go_enter func32,ntmps32
  go_wp2_with fail
  refine(HI.out w Zp.out).mono ?_;rintro e w2 ⟨rfl,ZN⟩;have ZT:=Z' ZN;clear ZN
  go_wp2_with fail
  refine(HA.out w2 ZT.out).mono ?_;rintro e w3 ⟨rfl,Zn⟩;have ZG:=Z7 ZT Zn;clear Zn
  go_wp2_with fail
  refine(HN.out w3 R ZG.out).mono ?_;rintro e w5 ⟨rfl,X',X5⟩;have HT:=Z' (uC w5 B g (s.need R 8) t X' Qq.out (show s.l.length<=_ by omega) (Nat.le_trans hB (Nat.le_trans ZG.out.size X5.size)));have XD:=Z' ((yR.of ZG.out).trans X5);have T3:((s.need R 8).text t).1.l.length<=s.l.length+2:=wq (s.need R 8) t;have Pw:((s.need R 8).text t).2<=s.l.length:=sg (s.need R 8) _;generalize(s.need R 8).text t=T at*;obtain⟨s6,i6⟩:=T;dsimp only at T3 Pw;have UA:=Z' T3;clear X' X5 T3
  go_wp2_with fail
  refine HT.out.mono ?_;rintro e w6 ⟨rfl,XR,Y2⟩;have HP:=Z' (tJ w6 B g s6 ⟨7,(i6:Nat),0,0,[]⟩ XR (tD (by omega) (by omega) (by omega) (xp (by omega))) (show(7:Int)≠0 by decide) (by have:=UA.out;omega) ((XD.out.trans Y2).bnd hB));have XG:=Z' (XD.out.trans Y2);clear XR Y2 HT UA XD;dsimp only[KV.cells]at HP;generalize s6.put ⟨7,(i6:Nat),0,0,[]⟩=Q at*
  go_wp2_with fail
  refine HP.out.mono ?_;rintro e w7 ⟨rfl,Sv,QS⟩
  go_wp2_with fail
  go_ret;exact⟨rfl,Sv,XG.out.trans QS⟩
 have hR:R=true:=HR;subst hR;clear HR;go_enter func32,ntmps32
 go_wp2_with fail
 refine(HI.out w Zp.out).mono ?_;rintro e w2 ⟨rfl,ZN⟩;have ZT:=Z' ZN;clear ZN
 go_wp2_with fail
 refine(HN.out w2 true ZT.out).mono ?_;rintro e w5 ⟨rfl,X',X5⟩;have HT:=Z' (uC w5 B g (s.need true 8) t X' Qq.out (show s.l.length<=_ by omega) (Nat.le_trans hB (Nat.le_trans ZT.out.size X5.size)));have XD:=Z' ((yR.of ZT.out).trans X5);have T3:((s.need true 8).text t).1.l.length<=s.l.length+2:=wq (s.need true 8) t;have Pw:((s.need true 8).text t).2<=s.l.length:=sg (s.need true 8) _;generalize(s.need true 8).text t=T at*;obtain⟨s6,i6⟩:=T;dsimp only at T3 Pw;have UA:=Z' T3;clear X' X5 T3
 go_wp2_with fail
 refine HT.out.mono ?_;rintro e w6 ⟨rfl,XR,Y2⟩;have HP:=Z' (tJ w6 B g s6 ⟨7,(i6:Nat),0,0,[]⟩ XR (tD (by omega) (by omega) (by omega) (xp (by omega))) (show(7:Int)≠0 by decide) (by have:=UA.out;omega) ((XD.out.trans Y2).bnd hB));have XG:=Z' (XD.out.trans Y2);clear XR Y2 HT UA XD;dsimp only[KV.cells]at HP;generalize s6.put ⟨7,(i6:Nat),0,0,[]⟩=Q at*
 go_wp2_with fail
 refine HP.out.mono ?_;rintro e w7 ⟨rfl,Sv,QS⟩
 go_wp2_with fail
 go_ret;exact⟨rfl,Sv,XG.out.trans QS⟩
theorem cD:prog.underlying yU=some (.struct (prog.fieldsOf yU)):=by kernel_rfl
theorem D4e:prog.stoodInHeld yU=false:=by kernel_rfl
theorem mY:prog.eqGuardType prog.depth yU=false:=by kernel_rfl
theorem D4x:(prog.fieldsOf yU).toList.map (fun f=>(f.name,f.type,f.offset))=[("Op",5,0),("N",2,1),("M",3,2),("Class",9,3),("Name",9,4),("Desc",9,5),("Text",9,6)]:=by kernel_rfl
def uP(x y:IN):Bool:=decide (x.op=y.op/\x.n=y.n/\x.m=y.m/\x.cl=y.cl/\x.nm=y.nm/\x.ds=y.ds/\x.tx=y.tx)
theorem mX(w:World)(d:Nat)(x y:IN):(Op.equalIn (d+1+1) yU (.agg x.cells.toArray) (.agg y.cells.toArray)).run prog w= .ok (uP x y) w:=by
 unfold IN.cells;rw[run_equalIn_struct w (d+1) _ _ _ cD D4e];have hl:=D4x
 match hf:(prog.fieldsOf yU).toList,hl with
 |[f0,f1,f2,f3,f4,f5,f6],hl=>
  simp only[List.map_cons,List.map_nil,List.cons.injEq,Prod.mk.injEq,and_true]at hl;obtain⟨⟨n0,t0,o0⟩,⟨n1,t1,o1⟩,⟨n2,t2,o2⟩,⟨n3,t3,o3⟩,⟨n4,t4,o4⟩,⟨n5,t5,o5⟩,⟨n6,t6,o6⟩⟩:=hl;simp only[Op.eqFields,n0,n1,n2,n3,n4,n5,n6,t0,t1,t2,t3,t4,t5,t6,o0,o1,o2,o3,o4,o5,o6]
  have b:∀(e:Value) (i:Nat) (t:TypeId) (d':TypeDesc) (cs:Array Value) (w:World),prog.underlying t=some d'->(match d' with| .struct _| .array _ _=>false|_=>true)=true->cs[i]? =some e->(part t cs i).run prog w= .ok e w:=by
   intro e i t d' cs w h1 h2 h3
   cases d'<;>simp[part,isAgg,run_underlying h1,h3]at h2⊢
  have i0:∀(i:Nat) (cs:Array Value) (w:World) (h:i<cs.size),(part 3 cs i).run prog w= .ok cs[i] w:=fun i cs w h=>b _ i _ _ cs w underlying3 rfl (Array.getElem?_eq_getElem h)
  have i1:∀(i:Nat) (cs:Array Value) (w:World) (h:i<cs.size),(part 5 cs i).run prog w= .ok cs[i] w:=fun i cs w h=>b _ i _ _ cs w underlying5 rfl (Array.getElem?_eq_getElem h)
  have i3:∀(i:Nat) (cs:Array Value) (w:World) (h:i<cs.size),(part 2 cs i).run prog w= .ok cs[i] w:=fun i cs w h=>b _ i _ _ cs w underlying2 rfl (Array.getElem?_eq_getElem h)
  have i4:∀(i:Nat) (cs:Array Value) (w:World) (h:i<cs.size),(part 9 cs i).run prog w= .ok cs[i] w:=fun i cs w h=>b _ i _ _ cs w underlying9 rfl (Array.getElem?_eq_getElem h)
  by_cases g0:x.op=y.op
  ·by_cases g1:x.n=y.n
   ·by_cases g2:x.m=y.m
    ·by_cases g3:x.cl=y.cl
     ·by_cases g4:x.nm=y.nm
      ·by_cases g5:x.ds=y.ds
       ·by_cases g6:x.tx=y.tx<;>simp[i0,i1,i3,i4,run_equalIn_int _ _ _ _ _ _ _ underlying3,run_equalIn_int _ _ _ _ _ _ _ underlying2,run_equalIn_int _ _ _ _ _ _ _ underlying5,run_equalIn_string _ _ _ _ _ underlying9,g0,g1,g2,g3,g4,g5,g6,uP,qM]
       simp[i0,i1,i3,i4,run_equalIn_int _ _ _ _ _ _ _ underlying3,run_equalIn_int _ _ _ _ _ _ _ underlying2,run_equalIn_int _ _ _ _ _ _ _ underlying5,run_equalIn_string _ _ _ _ _ underlying9,g0,g1,g2,g3,g4,g5,uP,qM]
      simp[i0,i1,i3,i4,run_equalIn_int _ _ _ _ _ _ _ underlying3,run_equalIn_int _ _ _ _ _ _ _ underlying2,run_equalIn_int _ _ _ _ _ _ _ underlying5,run_equalIn_string _ _ _ _ _ underlying9,g0,g1,g2,g3,g4,uP,qM]
     simp[i0,i1,i3,i4,run_equalIn_int _ _ _ _ _ _ _ underlying3,run_equalIn_int _ _ _ _ _ _ _ underlying2,run_equalIn_int _ _ _ _ _ _ _ underlying5,run_equalIn_string _ _ _ _ _ underlying9,g0,g1,g2,g3,uP,qM]
    simp[i0,i1,i3,run_equalIn_int _ _ _ _ _ _ _ underlying3,run_equalIn_int _ _ _ _ _ _ _ underlying2,run_equalIn_int _ _ _ _ _ _ _ underlying5,g0,g1,g2,uP]
   simp[i1,i3,run_equalIn_int _ _ _ _ _ _ _ underlying2,run_equalIn_int _ _ _ _ _ _ _ underlying5,g0,g1,uP]
  have AT:¬(x.op:Int)=(y.op:Int):=by omega
  simp[i1,run_equalIn_int _ _ _ _ _ _ _ underlying5,g0,AT,uP]
 |[],hl|[_],hl|[_,_],hl|[_,_,_],hl|[_,_,_,_],hl|[_,_,_,_,_],hl|[_,_,_,_,_,_],hl|_::_::_::_::_::_::_::_::_,hl=>simp at hl
theorem ah(w:World)(x:IN)(Zx:x.op<256):Calls prog 120 #[.agg x.cells.toArray] w fun e w'=>e= .returned (.bool (sR x))/\Below w.heap.size w w':=by
 have HF:=Z' (fun w=>qu w x.op Zx);obtain⟨f,hf⟩:=Z8 (yX x.op);rw[<-hf]at HF;obtain⟨R,hR⟩:=Z8 (sR x);rw[<-hR];unfold sR at hR;rw[<-hf]at hR;have HR:=Z' hR;have Vk:=fun W (y:IN)=>mX W 9998 x y
 clear hf hR Zx;obtain⟨op,n,m,cl,nm,ds,tx⟩:=x;dsimp only[IN.cells]at HR Vk HF⊢;have XF:=mY;go_enter func120,ntmps120
 go_wp2_with fail
 refine(HF.out _).mono ?_;rintro e w1 ⟨rfl,ZQ⟩
 have BL:((w.alloc (.cells #[.int .u8 (op:Nat),.int .i64 n,.int .i64 m,.string ⟨cl.toArray⟩,.string ⟨nm.toArray⟩,.string ⟨ds.toArray⟩,.string ⟨tx.toArray⟩] yU)).alloc (.cells #[.int .u8 (op:Nat),.int .i64 n,.int .i64 0,.string ⟨#[]⟩,.string ⟨#[]⟩,.string ⟨#[]⟩,.string ⟨#[]⟩] yU)).heap[w.heap.size]? =some (.cells #[.int .u8 (op:Nat),.int .i64 n,.int .i64 m,.string ⟨cl.toArray⟩,.string ⟨nm.toArray⟩,.string ⟨ds.toArray⟩,.string ⟨tx.toArray⟩] yU (0,0)):=by
  rw[Below.heap_alloc _ _ _ (by simp)];exact heap_alloc_last w _
 have NQ:=heap_alloc_last (w.alloc (.cells #[.int .u8 (op:Nat),.int .i64 n,.int .i64 m,.string ⟨cl.toArray⟩,.string ⟨nm.toArray⟩,.string ⟨ds.toArray⟩,.string ⟨tx.toArray⟩] yU)) (.cells #[.int .u8 (op:Nat),.int .i64 n,.int .i64 0,.string ⟨#[]⟩,.string ⟨#[]⟩,.string ⟨#[]⟩,.string ⟨#[]⟩] yU);have hsz:(w.alloc (.cells #[.int .u8 (op:Nat),.int .i64 n,.int .i64 m,.string ⟨cl.toArray⟩,.string ⟨nm.toArray⟩,.string ⟨ds.toArray⟩,.string ⟨tx.toArray⟩] yU)).heap.size=w.heap.size+1:=by simp
 rw[hsz]at NQ;have ZM:=Z' ((((Below.refl w.heap.size w).alloc Z5 _).alloc (by simp) _).trans (ZQ.mono (by simp;omega)));have Zh:=Z9 (yJ w.heap.size ⟨op,n,m,cl,nm,ds,tx⟩ w1) (yW BL ZQ);have AE:=Z9 (yJ (w.heap.size+1) ⟨op,n,0,[],[],[],[]⟩ w1) (yW NQ ZQ);clear BL NQ ZQ hsz;obtain⟨i0,i1,i2,i3,i4,i5,i6,-,-,-,-,-,-⟩:=Zh.out.box;obtain⟨j0,j1,j2,j3,j4,j5,j6,f1,f2,f3,f4,f5,f6⟩:=AE.out.box;dsimp only at i0 i1 i2 i3 i4 i5 i6 j0 j1 j2 j3 j4 j5 j6;by_cases f8:f=8
 ·have e8:((f:Int)==8)=true:=by subst f8;rfl
  have he:∀W,(Op.equalIn 10000 yU (.agg #[.int .u8 (op:Nat),.int .i64 n,.int .i64 m,.string ⟨cl.toArray⟩,.string ⟨nm.toArray⟩,.string ⟨ds.toArray⟩,.string ⟨tx.toArray⟩]) (.agg #[.int .u8 (op:Nat),.int .i64 n,.int .i64 m,.string ⟨#[]⟩,.string ⟨#[]⟩,.string ⟨#[]⟩,.string ⟨#[]⟩])).run prog W= .ok R W:=fun W=>by
   have h:=Vk W ⟨op,n,m,[],[],[],[]⟩;rw[show uP ⟨op,n,m,cl,nm,ds,tx⟩ ⟨op,n,m,[],[],[],[]⟩=R by rw[HR.out];unfold uP;simp[f8]]at h;exact h
  clear Vk f8
  go_wp2_with fail
  go_ret;exact⟨rfl,ZM.out.setCell (show w.heap.size<=w.heap.size+1 by omega) _⟩
 have e8:((f:Int)==8)=false:=by rw[beq_eq_false_iff_ne];omega
 have he:∀W,(Op.equalIn 10000 yU (.agg #[.int .u8 (op:Nat),.int .i64 n,.int .i64 m,.string ⟨cl.toArray⟩,.string ⟨nm.toArray⟩,.string ⟨ds.toArray⟩,.string ⟨tx.toArray⟩]) (.agg #[.int .u8 (op:Nat),.int .i64 n,.int .i64 0,.string ⟨#[]⟩,.string ⟨#[]⟩,.string ⟨#[]⟩,.string ⟨#[]⟩])).run prog W= .ok R W:=fun W=>by
  have h:=Vk W ⟨op,n,0,[],[],[],[]⟩;rw[show uP ⟨op,n,m,cl,nm,ds,tx⟩ ⟨op,n,0,[],[],[],[]⟩=R by rw[HR.out];unfold uP;simp[f8]]at h;exact h
 clear Vk f8
 go_wp2_with fail
 go_ret;exact⟨rfl,ZM.out⟩
theorem jj(n:Int):IntKind.i32.wrap n=vP n:=by
 unfold vP IntKind.wrap;simp[IntKind.bits,IntKind.signed];omega
theorem bC(w:World)(B g:Nat)(s:LW)(n:Int)(h:LoS w B g s):Calls prog 121 #[.pointer (some ⟨g,0,none⟩),.int .i64 n] w (uf (.int .i64 (vP n)) B g (s.need (vu n) 8) w):=by
 have HN:=Z' (fun ok=>xk w B g s ok 8 h);obtain⟨R,hR⟩:=Z8 (vu n);rw[<-hR];unfold vu at hR;obtain⟨q,hq⟩:=Z8 (vP n);rw[<-hq];have hw:IntKind.i32.wrap n=q:=by rw[hq];exact jj n
 have Fz: -2147483648<=q/\q<=2147483647:=by rw[hq];unfold vP;omega
 obtain⟨q0,q1⟩:=Fz;have G3:IntKind.i64.wrap q=q:=by rw[IntKind.wrap_i64];omega
 clear h hq;by_cases h1: -2147483648<=n
 ·have d1:decide (-2147483648<=n)=true:=decide_eq_true h1;by_cases h2:n<2147483648
  ·have d2:decide (n<2147483648)=true:=decide_eq_true h2;have Pz:R=true:=by rw[hR];exact decide_eq_true (by omega)
   subst Pz;clear hR;go_enter func121,ntmps121
   go_wp2_with fail
   refine(HN.out true).mono ?_;rintro e w1 ⟨rfl,hs,hk⟩
   go_wp2_with fail
   go_ret;exact⟨rfl,hs,hk⟩
  have d2:decide (n<2147483648)=false:=decide_eq_false h2;have Pz:R=false:=by rw[hR];exact decide_eq_false (by omega)
  subst Pz;clear hR;go_enter func121,ntmps121
  go_wp2_with fail
  refine(HN.out false).mono ?_;rintro e w1 ⟨rfl,hs,hk⟩
  go_wp2_with fail
  go_ret;exact⟨rfl,hs,hk⟩
 have d1:decide (-2147483648<=n)=false:=decide_eq_false h1;have Pz:R=false:=by rw[hR];exact decide_eq_false (by omega)
 subst Pz;clear hR;go_enter func121,ntmps121
 go_wp2_with fail
 refine(HN.out false).mono ?_;rintro e w1 ⟨rfl,hs,hk⟩
 go_wp2_with fail
 go_ret;exact⟨rfl,hs,hk⟩
theorem yJ.keepL{B g:Nat}{x:IN}{w w':World}(h:yJ g x w)(hk:yR B w w'):yJ g x w':=hk.row h (by decide) (by decide)
structure vd(x:IN):Prop where
 op:x.op<256
 n:xZ x.n
 m:xZ x.m
 cl:x.cl.length<=65536
 nm:x.nm.length<=65536
 ds:x.ds.length<=65536
 tx:x.tx.length<=65536
theorem ry(w:World)(B g:Nat)(s:LW)(x:IN)(tag:Int)(fis:Nat)(p:List UInt8->Bool)
  (FU:∀(args:Array Value) (W:World),(callFunc fis args).run prog W= .ok (.enter fis args) W)
  (hp:∀(W:World) (s:List UInt8),s.length<=65536->VW W->Calls prog fis #[.string ⟨s.toArray⟩] W fun e w'=>e= .returned (.bool (p s))/\Below W.heap.size W w')
  (h:LoS w B g s) (hf:vd x) (hn:s.l.length<=1000000000050) (hB:B<=w.heap.size) (Ub:0<tag/\tag<=65536):
  Calls prog 155 #[.pointer (some ⟨g,0,none⟩),.agg x.cells.toArray,.int .i64 tag,.func (.func fis) #[] #[]] w (uf (.int .i64 ((s.member x tag p).2:Nat)) B g (s.member x tag p).1 w):=by
 have hvw:VW w:=by obtain⟨a,cap,b,h⟩:=h;exact h.vw
 have HF:=Z' hf;have ZQ:Below w.heap.size w (w.alloc (.cells x.cells.toArray yU)):=yV _ _;have ZJ:=Z' (h.below ZQ);have YX:=Z' (yR.of ZQ:yR B w (w.alloc (.cells x.cells.toArray yU)));have Zh:=Z9 (yJ w.heap.size x (w.alloc (.cells x.cells.toArray yU))) (heap_alloc_last w _);have QZ:=Z' (hvw.below ZQ);have Q8:B<=(w.alloc (.cells x.cells.toArray yU)).heap.size:=YX.out.bnd hB;unfold LW.member;dsimp only;obtain⟨R,hR⟩:=Z8 (yk x.nm&&p x.ds);rw[<-hR];have HR:=hR;clear hR h hf hvw ZQ;have Y9:=Z' (fun W (hv:VW W)=>sF W x.nm HF.out.nm hv);have Zj:=Z' (fun W (hv:VW W)=>hp W x.ds HF.out.ds hv);generalize yk x.nm=x1 at*;generalize p x.ds=x2 at*;clear hp;obtain⟨op,n,m,cl,nm,ds,tx⟩:=x;obtain⟨t0,t1⟩:=Ub;dsimp only[IN.cells]at ZJ YX Zh QZ Q8 Y9 Zj HF⊢;go_enter func155,ntmps155
 go_upto_region 1 with fail
 generalize w.alloc _=W at*;obtain⟨j0,j1,j2,j3,j4,j5,j6,-,-,-,-,-,-⟩:=Zh.out.box;dsimp only at j0 j1 j2 j3 j4 j5 j6;have HN:=Z' (fun W2 ok (hb:Below W.heap.size W W2)=>xk W2 B g s ok 8 (ZJ.out.below hb))
 go_wp2_with fail
 refine(Y9.out W QZ.out).mono ?_;rintro e w2 ⟨rfl,ZN⟩;have ZT:=Z' ZN;clear ZN j0 j1 j2 j3 j4 j5 j6
 cases x1
 ·have hR:R=false:=HR;subst hR;clear HR
  go_wp2_with fail
  refine(HN.out w2 false ZT.out).mono ?_;rintro e w3 ⟨rfl,Zz,ZH⟩;have ZL:=Z' ((yR.of ZT.out).trans ZH);have YD:=Z' ((Zh.out.below ZT.out).keepL ZH);have HC:=Z' (sG w3 B g _ cl false Zz HF.out.cl (show s.l.length<=_ by omega) (ZL.out.bnd Q8));have N7:((s.need false 8).cls cl false).1.l.length<=s.l.length+4:=tE (s.need false 8) cl false;have FP:((s.need false 8).cls cl false).2<((s.need false 8).cls cl false).1.l.length:=uY _ _;generalize(s.need false 8).cls cl false=C4 at*;obtain⟨s4,i4⟩:=C4;dsimp only at N7 FP HC⊢;obtain⟨j0,j1,j2,j3,j4,j5,j6,-,-,-,-,-,-⟩:=YD.out.box;dsimp only at j0 j1 j2 j3 j4 j5 j6;clear Zz ZH
  go_wp2_with fail
  refine HC.out.mono ?_;rintro e w4 ⟨rfl,YN,YJ⟩;have Xw:=Z' (ZL.out.trans YJ);have Qc:=Z' (YD.out.keepL YJ);have Mx:=Z' (uC w4 B g s4 nm YN HF.out.nm (by omega) (Xw.out.bnd Q8));have Q':(s4.text nm).1.l.length<=s4.l.length+2:=wq _ _;have Kn:(s4.text nm).2<(s4.text nm).1.l.length:=uY _ _;generalize s4.text nm=C5 at*;obtain⟨s5,i5⟩:=C5;dsimp only at Q' Kn Mx⊢;clear YN YJ HC ZL YD j0 j1 j2 j3 j4 j5 j6;obtain⟨j0,j1,j2,j3,j4,j5,j6,-,-,-,-,-,-⟩:=Qc.out.box;dsimp only at j0 j1 j2 j3 j4 j5 j6
  go_wp2_with fail
  refine Mx.out.mono ?_;rintro e w5 ⟨rfl,X',X5⟩;have XD:=Z' (Xw.out.trans X5);have Wa:=Z' (Qc.out.keepL X5);have Nc:=Z' (uC w5 B g s5 ds X' HF.out.ds (by omega) (XD.out.bnd Q8));have T3:(s5.text ds).1.l.length<=s5.l.length+2:=wq _ _;have Pw:(s5.text ds).2<(s5.text ds).1.l.length:=uY _ _;generalize s5.text ds=C6 at*;obtain⟨s6,i6⟩:=C6;dsimp only at T3 Pw Nc⊢;clear X' X5 Mx Xw Qc j0 j1 j2 j3 j4 j5 j6;obtain⟨j0,j1,j2,j3,j4,j5,j6,-,-,-,-,-,-⟩:=Wa.out.box;dsimp only at j0 j1 j2 j3 j4 j5 j6
  go_wp2_with fail
  refine Nc.out.mono ?_;rintro e w6 ⟨rfl,XR,Y2⟩;have XG:=Z' (XD.out.trans Y2);have HP:=Z' (tJ w6 B g s6 ⟨12,(i5:Nat),(i6:Nat),0,[]⟩ XR (tD (by omega) (by omega) (by omega) (xp (by omega))) (show(12:Int)≠0 by decide) (by omega) (XG.out.bnd Q8));have Mg:(s6.put ⟨12,(i5:Nat),(i6:Nat),0,[]⟩).1.l.length<=s6.l.length+2:=sY _ _;have F2:(s6.put ⟨12,(i5:Nat),(i6:Nat),0,[]⟩).2<(s6.put ⟨12,(i5:Nat),(i6:Nat),0,[]⟩).1.l.length:=uY _ _;generalize s6.put ⟨12,(i5:Nat),(i6:Nat),0,[]⟩=C7 at*;obtain⟨s7,i7⟩:=C7;dsimp only[KV.cells]at Mg F2 HP⊢;clear XR Y2 Nc XD Wa j0 j1 j2 j3 j4 j5 j6
  go_wp2_with fail
  refine HP.out.mono ?_;rintro e w7 ⟨rfl,Sv,QS⟩;have Tp:=Z' (XG.out.trans QS);have HQ:=Z' (tJ w7 B g s7 ⟨tag,(i4:Nat),(i7:Nat),0,[]⟩ Sv (tD (by omega) (by omega) (by omega) (xp (by omega))) (show tag≠0 by omega) (by omega) (Tp.out.bnd Q8));generalize s7.put ⟨tag,(i4:Nat),(i7:Nat),0,[]⟩=C8 at*;obtain⟨s8,i8⟩:=C8;dsimp only[KV.cells]at HQ⊢;clear Sv QS HP XG
  go_wp2_with fail
  refine HQ.out.mono ?_;rintro e w8 ⟨rfl,R8,Sd⟩
  go_wp2_with fail
  go_ret;exact⟨rfl,R8,YX.out.trans (Tp.out.trans Sd)⟩
 have hR:R=x2:=HR;subst hR;clear HR;obtain⟨j0,j1,j2,j3,j4,j5,j6,-,-,-,-,-,-⟩:=(Zh.out.below ZT.out).box;dsimp only at j0 j1 j2 j3 j4 j5 j6
 go_wp2_with fail
 refine(Zj.out w2 (QZ.out.below ZT.out)).mono ?_;rintro e w9 ⟨rfl,Zn⟩;have ZG:=Z7 ZT Zn;clear Zn j0 j1 j2 j3 j4 j5 j6
 go_wp2_with fail
 refine(HN.out w9 R ZG.out).mono ?_;rintro e w3 ⟨rfl,Zz,ZH⟩;have ZL:=Z' ((yR.of ZG.out).trans ZH);have YD:=Z' ((Zh.out.below ZG.out).keepL ZH);have HC:=Z' (sG w3 B g _ cl false Zz HF.out.cl (show s.l.length<=_ by omega) (ZL.out.bnd Q8));have N7:((s.need R 8).cls cl false).1.l.length<=s.l.length+4:=tE (s.need R 8) cl false;have FP:((s.need R 8).cls cl false).2<((s.need R 8).cls cl false).1.l.length:=uY _ _;generalize(s.need R 8).cls cl false=C4 at*;obtain⟨s4,i4⟩:=C4;dsimp only at N7 FP HC⊢;obtain⟨j0,j1,j2,j3,j4,j5,j6,-,-,-,-,-,-⟩:=YD.out.box;dsimp only at j0 j1 j2 j3 j4 j5 j6;clear Zz ZH
 go_wp2_with fail
 refine HC.out.mono ?_;rintro e w4 ⟨rfl,YN,YJ⟩;have Xw:=Z' (ZL.out.trans YJ);have Qc:=Z' (YD.out.keepL YJ);have Mx:=Z' (uC w4 B g s4 nm YN HF.out.nm (by omega) (Xw.out.bnd Q8));have Q':(s4.text nm).1.l.length<=s4.l.length+2:=wq _ _;have Kn:(s4.text nm).2<(s4.text nm).1.l.length:=uY _ _;generalize s4.text nm=C5 at*;obtain⟨s5,i5⟩:=C5;dsimp only at Q' Kn Mx⊢;clear YN YJ HC ZL YD j0 j1 j2 j3 j4 j5 j6;obtain⟨j0,j1,j2,j3,j4,j5,j6,-,-,-,-,-,-⟩:=Qc.out.box;dsimp only at j0 j1 j2 j3 j4 j5 j6
 go_wp2_with fail
 refine Mx.out.mono ?_;rintro e w5 ⟨rfl,X',X5⟩;have XD:=Z' (Xw.out.trans X5);have Wa:=Z' (Qc.out.keepL X5);have Nc:=Z' (uC w5 B g s5 ds X' HF.out.ds (by omega) (XD.out.bnd Q8));have T3:(s5.text ds).1.l.length<=s5.l.length+2:=wq _ _;have Pw:(s5.text ds).2<(s5.text ds).1.l.length:=uY _ _;generalize s5.text ds=C6 at*;obtain⟨s6,i6⟩:=C6;dsimp only at T3 Pw Nc⊢;clear X' X5 Mx Xw Qc j0 j1 j2 j3 j4 j5 j6;obtain⟨j0,j1,j2,j3,j4,j5,j6,-,-,-,-,-,-⟩:=Wa.out.box;dsimp only at j0 j1 j2 j3 j4 j5 j6
 go_wp2_with fail
 refine Nc.out.mono ?_;rintro e w6 ⟨rfl,XR,Y2⟩;have XG:=Z' (XD.out.trans Y2);have HP:=Z' (tJ w6 B g s6 ⟨12,(i5:Nat),(i6:Nat),0,[]⟩ XR (tD (by omega) (by omega) (by omega) (xp (by omega))) (show(12:Int)≠0 by decide) (by omega) (XG.out.bnd Q8));have Mg:(s6.put ⟨12,(i5:Nat),(i6:Nat),0,[]⟩).1.l.length<=s6.l.length+2:=sY _ _;have F2:(s6.put ⟨12,(i5:Nat),(i6:Nat),0,[]⟩).2<(s6.put ⟨12,(i5:Nat),(i6:Nat),0,[]⟩).1.l.length:=uY _ _;generalize s6.put ⟨12,(i5:Nat),(i6:Nat),0,[]⟩=C7 at*;obtain⟨s7,i7⟩:=C7;dsimp only[KV.cells]at Mg F2 HP⊢;clear XR Y2 Nc XD Wa j0 j1 j2 j3 j4 j5 j6
 go_wp2_with fail
 refine HP.out.mono ?_;rintro e w7 ⟨rfl,Sv,QS⟩;have Tp:=Z' (XG.out.trans QS);have HQ:=Z' (tJ w7 B g s7 ⟨tag,(i4:Nat),(i7:Nat),0,[]⟩ Sv (tD (by omega) (by omega) (by omega) (xp (by omega))) (show tag≠0 by omega) (by omega) (Tp.out.bnd Q8));generalize s7.put ⟨tag,(i4:Nat),(i7:Nat),0,[]⟩=C8 at*;obtain⟨s8,i8⟩:=C8;dsimp only[KV.cells]at HQ⊢;clear Sv QS HP XG
 go_wp2_with fail
 refine HQ.out.mono ?_;rintro e w8 ⟨rfl,R8,Sd⟩
 go_wp2_with fail
 go_ret;exact⟨rfl,R8,YX.out.trans (Tp.out.trans Sd)⟩
theorem mF(w:World)(B g:Nat)(s:LW)(x:IN)(h:LoS w B g s)(hf:vd x)(hn:s.l.length<=1000000000050)(hB:B<=w.heap.size):
  Calls prog 71 #[.pointer (some ⟨g,0,none⟩),.agg x.cells.toArray] w (uf (.int .i64 ((s.con x).2:Nat)) B g (s.con x).1 w):=by
 have HF:=Z' hf;have ZQ:Below w.heap.size w (w.alloc (.cells x.cells.toArray yU)):=yV _ _;have ZJ:=Z' (h.below ZQ);have YX:=Z' (yR.of ZQ:yR B w (w.alloc (.cells x.cells.toArray yU)));have Zh:=Z9 (yJ w.heap.size x (w.alloc (.cells x.cells.toArray yU))) (heap_alloc_last w _);obtain⟨R,hR⟩:=Z8 (s.con x);rw[<-hR];have HR:=Z' hR;clear hR h hf ZQ;obtain⟨op,n,m,cl,nm,ds,tx⟩:=x;dsimp only[IN.cells]at ZJ YX Zh HF HR⊢;by_cases XK:ds=[73]
 ·have Gq:(ds==[73])=true:=by rw[XK];rfl
  have Ff:(ds==[83])=false:=by rw[XK];rfl
  have Ex:(ds==[74])=false:=by rw[XK];rfl
  by_cases VS:op=18
  ·have P5:((op:Int)==18)=true:=by rw[VS];rfl
   by_cases Zb:tx=[]
   ·have t1:(tx==[])=true:=by rw[Zb];rfl
    have t2:tx.isEmpty=true:=by rw[Zb];rfl
    have ZS:=Z' (show R=(s.need (vu n) 8).put ⟨3,0,0,n,[]⟩ by rw[HR.out];unfold LW.con;rw[if_pos ⟨XK,VS,Zb⟩]);clear HR XK VS Zb;go_enter func71,ntmps71
    go_upto_region 1 with fail
    generalize w.alloc _=W at*;obtain⟨j0,j1,j2,j3,j4,j5,j6,-,-,-,-,-,-⟩:=Zh.out.box;dsimp only at j0 j1 j2 j3 j4 j5 j6;obtain⟨b,hb⟩:=Z8 (vu n);rw[<-hb]at ZS;obtain⟨q,hq⟩:=Z8 (vP n);have hw:IntKind.i32.wrap n=q:=by rw[hq];exact jj n
    have Fz: -2147483648<=q/\q<=2147483647:=by rw[hq];unfold vP;omega
    have Hc:(n==q)=b:=by
     rw[hb,hq,Bool.eq_iff_iff,beq_iff_eq];unfold vu vP;rw[decide_eq_true_iff];omega
    obtain⟨q0,q1⟩:=Fz;have G3:IntKind.i64.wrap q=q:=by rw[IntKind.wrap_i64];omega
    have HN:=Z' (xk W B g s b 8 ZJ.out);clear hq hb
    go_wp2_with fail
    refine HN.out.mono ?_;rintro e w3 ⟨rfl,Zz,ZH⟩;have ZL:=Z' (YX.out.trans ZH);have YD:=Z' (Zh.out.keepL ZH);have HP:=Z' (tJ w3 B g _ ⟨3,0,0,n,[]⟩ Zz (tD (by omega) (by omega) (by omega) HF.out.n) (show(3:Int)≠0 by decide) (show s.l.length<=_ by omega) (ZL.out.bnd hB));clear Zz ZH hw G3 Hc j0 j1 j2 j3 j4 j5 j6;obtain⟨j0,j1,j2,j3,j4,j5,j6,-,-,-,-,-,-⟩:=YD.out.box;dsimp only[KV.cells]at j0 j1 j2 j3 j4 j5 j6 HP
    go_wp2_with fail
    refine HP.out.mono ?_;rintro e w4 ⟨rfl,YN,YJ⟩
    go_wp2_with fail
    go_ret;rw[ZS.out];exact⟨rfl,YN,ZL.out.trans YJ⟩
   have t1:(tx==[])=false:=by simpa using Zb
   have t2:tx.isEmpty=false:=by simpa using Zb
   have ZS:=Z' (show R=(s.need false 8,0) by rw[HR.out];unfold LW.con;rw[if_neg (fun h=>Zb h.2.2),if_neg (fun h=>by rw[XK]at h;simp at h),if_neg (fun h=>by rw[XK]at h;simp at h)]);clear HR XK VS Zb;go_enter func71,ntmps71
   go_upto_region 1 with fail
   generalize w.alloc _=W at*;obtain⟨j0,j1,j2,j3,j4,j5,j6,-,-,-,-,-,-⟩:=Zh.out.box;dsimp only at j0 j1 j2 j3 j4 j5 j6;have HN:=Z' (xk W B g s false 8 ZJ.out)
   go_wp2_with fail
   refine HN.out.mono ?_;rintro e w3 ⟨rfl,Zz,ZH⟩
   go_wp2_with fail
   go_ret;rw[ZS.out];exact⟨rfl,Zz,YX.out.trans ZH⟩
  have P5:((op:Int)==18)=false:=by rw[beq_eq_false_iff_ne];omega
  have ZS:=Z' (show R=(s.need false 8,0) by rw[HR.out];unfold LW.con;rw[if_neg (fun h=>VS h.2.1),if_neg (fun h=>by rw[XK]at h;simp at h),if_neg (fun h=>by rw[XK]at h;simp at h)]);clear HR XK VS;go_enter func71,ntmps71
  go_upto_region 1 with fail
  generalize w.alloc _=W at*;obtain⟨j0,j1,j2,j3,j4,j5,j6,-,-,-,-,-,-⟩:=Zh.out.box;dsimp only at j0 j1 j2 j3 j4 j5 j6;have HN:=Z' (xk W B g s false 8 ZJ.out)
  go_wp2_with fail
  refine HN.out.mono ?_;rintro e w3 ⟨rfl,Zz,ZH⟩
  go_wp2_with fail
  go_ret;rw[ZS.out];exact⟨rfl,Zz,YX.out.trans ZH⟩
 by_cases h83:ds=[83]
 ·have Gq:(ds==[73])=false:=by rw[h83];rfl
  have Ff:(ds==[83])=true:=by rw[h83];rfl
  have Ex:(ds==[74])=false:=by rw[h83];rfl
  by_cases VS:op=18
  ·have P5:((op:Int)==18)=true:=by rw[VS];rfl
   by_cases YK:n=0
   ·have t1:(n==0)=true:=by rw[YK];rfl
    have ZS:=Z' (show R=((s.text tx).1).put ⟨8,((s.text tx).2:Nat),0,0,[]⟩ by rw[HR.out];unfold LW.con;rw[if_neg (fun h=>by rw[h83]at h;simp at h),if_pos ⟨h83,VS,YK⟩]);clear HR h83 VS YK;go_enter func71,ntmps71
    go_upto_region 1 with fail
    generalize w.alloc _=W at*;obtain⟨j0,j1,j2,j3,j4,j5,j6,-,-,-,-,-,-⟩:=Zh.out.box;dsimp only at j0 j1 j2 j3 j4 j5 j6;have HN:=Z' (uC W B g s tx ZJ.out HF.out.tx (by omega) (YX.out.bnd hB));have Q':(s.text tx).1.l.length<=s.l.length+2:=wq _ _;have Kn:(s.text tx).2<(s.text tx).1.l.length:=uY _ _;generalize s.text tx=C5 at*;obtain⟨s5,i5⟩:=C5;dsimp only at Q' Kn HN ZS
    go_wp2_with fail
    refine HN.out.mono ?_;rintro e w3 ⟨rfl,Zz,ZH⟩;have ZL:=Z' (YX.out.trans ZH);have HP:=Z' (tJ w3 B g _ ⟨8,(i5:Nat),0,0,[]⟩ Zz (tD (by omega) (by omega) (by omega) (xp (by omega))) (show(8:Int)≠0 by decide) (by omega) (ZL.out.bnd hB));clear Zz ZH j0 j1 j2 j3 j4 j5 j6;dsimp only[KV.cells]at HP
    go_wp2_with fail
    refine HP.out.mono ?_;rintro e w4 ⟨rfl,YN,YJ⟩
    go_wp2_with fail
    go_ret;rw[ZS.out];exact⟨rfl,YN,ZL.out.trans YJ⟩
   have t1:(n==0)=false:=by simpa using YK
   have ZS:=Z' (show R=(s.need false 8,0) by rw[HR.out];unfold LW.con;rw[if_neg (fun h=>by rw[h83]at h;simp at h),if_neg (fun h=>YK h.2.2),if_neg (fun h=>by rw[h83]at h;simp at h)]);clear HR h83 VS YK;go_enter func71,ntmps71
   go_upto_region 1 with fail
   generalize w.alloc _=W at*;obtain⟨j0,j1,j2,j3,j4,j5,j6,-,-,-,-,-,-⟩:=Zh.out.box;dsimp only at j0 j1 j2 j3 j4 j5 j6;have HN:=Z' (xk W B g s false 8 ZJ.out)
   go_wp2_with fail
   refine HN.out.mono ?_;rintro e w3 ⟨rfl,Zz,ZH⟩
   go_wp2_with fail
   go_ret;rw[ZS.out];exact⟨rfl,Zz,YX.out.trans ZH⟩
  have P5:((op:Int)==18)=false:=by rw[beq_eq_false_iff_ne];omega
  have ZS:=Z' (show R=(s.need false 8,0) by rw[HR.out];unfold LW.con;rw[if_neg (fun h=>by rw[h83]at h;simp at h),if_neg (fun h=>VS h.2.1),if_neg (fun h=>by rw[h83]at h;simp at h)]);clear HR h83 VS;go_enter func71,ntmps71
  go_upto_region 1 with fail
  generalize w.alloc _=W at*;obtain⟨j0,j1,j2,j3,j4,j5,j6,-,-,-,-,-,-⟩:=Zh.out.box;dsimp only at j0 j1 j2 j3 j4 j5 j6;have HN:=Z' (xk W B g s false 8 ZJ.out)
  go_wp2_with fail
  refine HN.out.mono ?_;rintro e w3 ⟨rfl,Zz,ZH⟩
  go_wp2_with fail
  go_ret;rw[ZS.out];exact⟨rfl,Zz,YX.out.trans ZH⟩
 by_cases Ye:ds=[74]
 ·have Gq:(ds==[73])=false:=by rw[Ye];rfl
  have Ff:(ds==[83])=false:=by rw[Ye];rfl
  have Ex:(ds==[74])=true:=by rw[Ye];rfl
  by_cases WR:op=20
  ·have Tg:((op:Int)==20)=true:=by rw[WR];rfl
   by_cases Zb:tx=[]
   ·have t1:(tx==[])=true:=by rw[Zb];rfl
    have t2:tx.isEmpty=true:=by rw[Zb];rfl
    have ZS:=Z' (show R=s.put ⟨5,0,0,n,[]⟩ by rw[HR.out];unfold LW.con;rw[if_neg (fun h=>by rw[Ye]at h;simp at h),if_neg (fun h=>by rw[Ye]at h;simp at h),if_pos ⟨Ye,WR,Zb⟩]);clear HR Ye WR Zb;go_enter func71,ntmps71
    go_upto_region 1 with fail
    generalize w.alloc _=W at*;obtain⟨j0,j1,j2,j3,j4,j5,j6,-,-,-,-,-,-⟩:=Zh.out.box;dsimp only at j0 j1 j2 j3 j4 j5 j6;have HP:=Z' (tJ W B g s ⟨5,0,0,n,[]⟩ ZJ.out (tD (by omega) (by omega) (by omega) HF.out.n) (show(5:Int)≠0 by decide) (by omega) (YX.out.bnd hB));dsimp only[KV.cells]at HP
    go_wp2_with fail
    refine HP.out.mono ?_;rintro e w4 ⟨rfl,YN,YJ⟩
    go_wp2_with fail
    go_ret;rw[ZS.out];exact⟨rfl,YN,YX.out.trans YJ⟩
   have t1:(tx==[])=false:=by simpa using Zb
   have t2:tx.isEmpty=false:=by simpa using Zb
   have ZS:=Z' (show R=(s.need false 8,0) by rw[HR.out];unfold LW.con;rw[if_neg (fun h=>by rw[Ye]at h;simp at h),if_neg (fun h=>by rw[Ye]at h;simp at h),if_neg (fun h=>Zb h.2.2)]);clear HR Ye WR Zb;go_enter func71,ntmps71
   go_upto_region 1 with fail
   generalize w.alloc _=W at*;obtain⟨j0,j1,j2,j3,j4,j5,j6,-,-,-,-,-,-⟩:=Zh.out.box;dsimp only at j0 j1 j2 j3 j4 j5 j6;have HN:=Z' (xk W B g s false 8 ZJ.out)
   go_wp2_with fail
   refine HN.out.mono ?_;rintro e w3 ⟨rfl,Zz,ZH⟩
   go_wp2_with fail
   go_ret;rw[ZS.out];exact⟨rfl,Zz,YX.out.trans ZH⟩
  have Tg:((op:Int)==20)=false:=by rw[beq_eq_false_iff_ne];omega
  have ZS:=Z' (show R=(s.need false 8,0) by rw[HR.out];unfold LW.con;rw[if_neg (fun h=>by rw[Ye]at h;simp at h),if_neg (fun h=>by rw[Ye]at h;simp at h),if_neg (fun h=>WR h.2.1)]);clear HR Ye WR;go_enter func71,ntmps71
  go_upto_region 1 with fail
  generalize w.alloc _=W at*;obtain⟨j0,j1,j2,j3,j4,j5,j6,-,-,-,-,-,-⟩:=Zh.out.box;dsimp only at j0 j1 j2 j3 j4 j5 j6;have HN:=Z' (xk W B g s false 8 ZJ.out)
  go_wp2_with fail
  refine HN.out.mono ?_;rintro e w3 ⟨rfl,Zz,ZH⟩
  go_wp2_with fail
  go_ret;rw[ZS.out];exact⟨rfl,Zz,YX.out.trans ZH⟩
 have Gq:(ds==[73])=false:=by simpa using XK
 have Ff:(ds==[83])=false:=by simpa using h83
 have Ex:(ds==[74])=false:=by simpa using Ye
 have ZS:=Z' (show R=(s.need false 8,0) by rw[HR.out];unfold LW.con;rw[if_neg (fun h=>XK h.1),if_neg (fun h=>h83 h.1),if_neg (fun h=>Ye h.1)]);clear HR XK h83 Ye;go_enter func71,ntmps71
 go_upto_region 1 with fail
 generalize w.alloc _=W at*;obtain⟨j0,j1,j2,j3,j4,j5,j6,-,-,-,-,-,-⟩:=Zh.out.box;dsimp only at j0 j1 j2 j3 j4 j5 j6;have HN:=Z' (xk W B g s false 8 ZJ.out)
 go_wp2_with fail
 refine HN.out.mono ?_;rintro e w3 ⟨rfl,Zz,ZH⟩
 go_wp2_with fail
 go_ret;rw[ZS.out];exact⟨rfl,Zz,YX.out.trans ZH⟩
theorem aq(w:World)(B g:Nat)(s:LW)(x:IN)(h:LoS w B g s)(hf:vd x)(hn:s.l.length<=1000000000040)(hB:B<=w.heap.size):
  Calls prog 119 #[.pointer (some ⟨g,0,none⟩),.agg x.cells.toArray] w (uf (.int .i64 ((s.wide x).2:Nat)) B g (s.wide x).1 w):=by
 replace hn:s.l.length<=1000000000050:=by omega
 have HF:=Z' hf;have ZQ:Below w.heap.size w (w.alloc (.cells x.cells.toArray yU)):=yV _ _;have ZJ:=Z' (h.below ZQ);have YX:=Z' (yR.of ZQ:yR B w (w.alloc (.cells x.cells.toArray yU)));have Zh:=Z9 (yJ w.heap.size x (w.alloc (.cells x.cells.toArray yU))) (heap_alloc_last w _);obtain⟨R,hR⟩:=Z8 (s.wide x);rw[<-hR];have HR:=Z' hR;have Vk:=fun W (y:IN)=>mX W 9998 x y
 clear hR h hf ZQ;obtain⟨op,n,m,cl,nm,ds,tx⟩:=x;dsimp only[IN.cells]at ZJ YX Zh HF HR Vk⊢;by_cases Zx:op=178
 ·have TN:((op:Int)==178)=true:=by rw[Zx];rfl
  have ZS:=Z' (show R=(s.need (xx ⟨op,n,m,cl,nm,ds,tx⟩) 8).member ⟨op,n,m,cl,nm,ds,tx⟩ 9 typeB by
   rw[HR.out];unfold LW.wide;rw[if_pos (show wK op=true by rw[Zx];decide)])
  clear HR Zx;have Zy:=Z' (fun w3 hs Tr=>ry w3 B g (s.need (xx ⟨op,n,m,cl,nm,ds,tx⟩) 8) ⟨op,n,m,cl,nm,ds,tx⟩ 9 23 typeB (fun args W=>rfl) (fun W s h1 h2=>ub W s h1 h2) hs HF.out hn Tr (by decide));dsimp only[IN.cells]at Zy;obtain⟨b,hb⟩:=Z8 (xx ⟨op,n,m,cl,nm,ds,tx⟩);rw[<-hb]at ZS Zy;unfold xx at hb;dsimp only at hb;generalize(s.need b 8).member ⟨op,n,m,cl,nm,ds,tx⟩ 9 typeB=Q at*;have Zg:=Z' (fun W (h:LoS W B g s)=>xk W B g s b 8 h);by_cases YK:n=0
  ·have t0:(n==0)=true:=by rw[YK];rfl
   by_cases X4:m=0
   ·have t1:(m==0)=true:=by rw[X4];rfl
    obtain⟨bt,WD⟩:=Z8 (decide (tx=[]));have t2:(tx==[])=bt:=by rw[WD,Bool.eq_iff_iff,beq_iff_eq,decide_eq_true_iff]
    have t3:tx.isEmpty=bt:=by rw[WD,Bool.eq_iff_iff,List.isEmpty_iff,decide_eq_true_iff]
    have X2:b=bt:=by rw[hb,WD];simp[YK,X4]
    subst X2;clear hb WD YK X4;go_enter func119,ntmps119
    go_upto_region 1 with fail
    generalize w.alloc _=W at*;obtain⟨j0,j1,j2,j3,j4,j5,j6,-,-,-,-,-,-⟩:=Zh.out.box;dsimp only at j0 j1 j2 j3 j4 j5 j6
    go_wp2_with fail
    refine(Zg.out W ZJ.out).mono ?_;rintro e w3 ⟨rfl,Zz,ZH⟩;have ZL:=Z' (YX.out.trans ZH);have YD:=Z' (Zh.out.keepL ZH);have HC:=Z' (Zy.out w3 Zz (ZL.out.bnd hB));clear Zz ZH Zy Zg j0 j1 j2 j3 j4 j5 j6;obtain⟨j0,j1,j2,j3,j4,j5,j6,-,-,-,-,-,-⟩:=YD.out.box;dsimp only at j0 j1 j2 j3 j4 j5 j6
    go_wp2_with fail
    refine HC.out.mono ?_;rintro e w4 ⟨rfl,YN,YJ⟩
    go_wp2_with fail
    go_ret;rw[ZS.out];exact⟨rfl,YN,ZL.out.trans YJ⟩
   have t1:(m==0)=false:=by simpa using X4
   have X2:b=false:=by rw[hb];exact decide_eq_false (fun h=>X4 h.2.1)
   subst X2;clear hb YK X4;go_enter func119,ntmps119
   go_upto_region 1 with fail
   generalize w.alloc _=W at*;obtain⟨j0,j1,j2,j3,j4,j5,j6,-,-,-,-,-,-⟩:=Zh.out.box;dsimp only at j0 j1 j2 j3 j4 j5 j6
   go_wp2_with fail
   refine(Zg.out W ZJ.out).mono ?_;rintro e w3 ⟨rfl,Zz,ZH⟩;have ZL:=Z' (YX.out.trans ZH);have YD:=Z' (Zh.out.keepL ZH);have HC:=Z' (Zy.out w3 Zz (ZL.out.bnd hB));clear Zz ZH Zy Zg j0 j1 j2 j3 j4 j5 j6;obtain⟨j0,j1,j2,j3,j4,j5,j6,-,-,-,-,-,-⟩:=YD.out.box;dsimp only at j0 j1 j2 j3 j4 j5 j6
   go_wp2_with fail
   refine HC.out.mono ?_;rintro e w4 ⟨rfl,YN,YJ⟩
   go_wp2_with fail
   go_ret;rw[ZS.out];exact⟨rfl,YN,ZL.out.trans YJ⟩
  have t0:(n==0)=false:=by simpa using YK
  have X2:b=false:=by rw[hb];exact decide_eq_false (fun h=>YK h.1)
  subst X2;clear hb YK;go_enter func119,ntmps119
  go_upto_region 1 with fail
  generalize w.alloc _=W at*;obtain⟨j0,j1,j2,j3,j4,j5,j6,-,-,-,-,-,-⟩:=Zh.out.box;dsimp only at j0 j1 j2 j3 j4 j5 j6
  go_wp2_with fail
  refine(Zg.out W ZJ.out).mono ?_;rintro e w3 ⟨rfl,Zz,ZH⟩;have ZL:=Z' (YX.out.trans ZH);have YD:=Z' (Zh.out.keepL ZH);have HC:=Z' (Zy.out w3 Zz (ZL.out.bnd hB));clear Zz ZH Zy Zg j0 j1 j2 j3 j4 j5 j6;obtain⟨j0,j1,j2,j3,j4,j5,j6,-,-,-,-,-,-⟩:=YD.out.box;dsimp only at j0 j1 j2 j3 j4 j5 j6
  go_wp2_with fail
  refine HC.out.mono ?_;rintro e w4 ⟨rfl,YN,YJ⟩
  go_wp2_with fail
  go_ret;rw[ZS.out];exact⟨rfl,YN,ZL.out.trans YJ⟩
 have TN:((op:Int)==178)=false:=by rw[beq_eq_false_iff_ne];omega
 have Ve:=Zx;clear Zx;by_cases Zx:op=179
 ·have TT:((op:Int)==179)=true:=by rw[Zx];rfl
  have ZS:=Z' (show R=(s.need (xx ⟨op,n,m,cl,nm,ds,tx⟩) 8).member ⟨op,n,m,cl,nm,ds,tx⟩ 9 typeB by
   rw[HR.out];unfold LW.wide;rw[if_pos (show wK op=true by rw[Zx];decide)])
  clear HR Zx;have Zy:=Z' (fun w3 hs Tr=>ry w3 B g (s.need (xx ⟨op,n,m,cl,nm,ds,tx⟩) 8) ⟨op,n,m,cl,nm,ds,tx⟩ 9 23 typeB (fun args W=>rfl) (fun W s h1 h2=>ub W s h1 h2) hs HF.out hn Tr (by decide));dsimp only[IN.cells]at Zy;obtain⟨b,hb⟩:=Z8 (xx ⟨op,n,m,cl,nm,ds,tx⟩);rw[<-hb]at ZS Zy;unfold xx at hb;dsimp only at hb;generalize(s.need b 8).member ⟨op,n,m,cl,nm,ds,tx⟩ 9 typeB=Q at*;have Zg:=Z' (fun W (h:LoS W B g s)=>xk W B g s b 8 h);by_cases YK:n=0
  ·have t0:(n==0)=true:=by rw[YK];rfl
   by_cases X4:m=0
   ·have t1:(m==0)=true:=by rw[X4];rfl
    obtain⟨bt,WD⟩:=Z8 (decide (tx=[]));have t2:(tx==[])=bt:=by rw[WD,Bool.eq_iff_iff,beq_iff_eq,decide_eq_true_iff]
    have t3:tx.isEmpty=bt:=by rw[WD,Bool.eq_iff_iff,List.isEmpty_iff,decide_eq_true_iff]
    have X2:b=bt:=by rw[hb,WD];simp[YK,X4]
    subst X2;clear hb WD YK X4;go_enter func119,ntmps119
    go_upto_region 1 with fail
    generalize w.alloc _=W at*;obtain⟨j0,j1,j2,j3,j4,j5,j6,-,-,-,-,-,-⟩:=Zh.out.box;dsimp only at j0 j1 j2 j3 j4 j5 j6
    go_wp2_with fail
    refine(Zg.out W ZJ.out).mono ?_;rintro e w3 ⟨rfl,Zz,ZH⟩;have ZL:=Z' (YX.out.trans ZH);have YD:=Z' (Zh.out.keepL ZH);have HC:=Z' (Zy.out w3 Zz (ZL.out.bnd hB));clear Zz ZH Zy Zg j0 j1 j2 j3 j4 j5 j6;obtain⟨j0,j1,j2,j3,j4,j5,j6,-,-,-,-,-,-⟩:=YD.out.box;dsimp only at j0 j1 j2 j3 j4 j5 j6
    go_wp2_with fail
    refine HC.out.mono ?_;rintro e w4 ⟨rfl,YN,YJ⟩
    go_wp2_with fail
    go_ret;rw[ZS.out];exact⟨rfl,YN,ZL.out.trans YJ⟩
   have t1:(m==0)=false:=by simpa using X4
   have X2:b=false:=by rw[hb];exact decide_eq_false (fun h=>X4 h.2.1)
   subst X2;clear hb YK X4;go_enter func119,ntmps119
   go_upto_region 1 with fail
   generalize w.alloc _=W at*;obtain⟨j0,j1,j2,j3,j4,j5,j6,-,-,-,-,-,-⟩:=Zh.out.box;dsimp only at j0 j1 j2 j3 j4 j5 j6
   go_wp2_with fail
   refine(Zg.out W ZJ.out).mono ?_;rintro e w3 ⟨rfl,Zz,ZH⟩;have ZL:=Z' (YX.out.trans ZH);have YD:=Z' (Zh.out.keepL ZH);have HC:=Z' (Zy.out w3 Zz (ZL.out.bnd hB));clear Zz ZH Zy Zg j0 j1 j2 j3 j4 j5 j6;obtain⟨j0,j1,j2,j3,j4,j5,j6,-,-,-,-,-,-⟩:=YD.out.box;dsimp only at j0 j1 j2 j3 j4 j5 j6
   go_wp2_with fail
   refine HC.out.mono ?_;rintro e w4 ⟨rfl,YN,YJ⟩
   go_wp2_with fail
   go_ret;rw[ZS.out];exact⟨rfl,YN,ZL.out.trans YJ⟩
  have t0:(n==0)=false:=by simpa using YK
  have X2:b=false:=by rw[hb];exact decide_eq_false (fun h=>YK h.1)
  subst X2;clear hb YK;go_enter func119,ntmps119
  go_upto_region 1 with fail
  generalize w.alloc _=W at*;obtain⟨j0,j1,j2,j3,j4,j5,j6,-,-,-,-,-,-⟩:=Zh.out.box;dsimp only at j0 j1 j2 j3 j4 j5 j6
  go_wp2_with fail
  refine(Zg.out W ZJ.out).mono ?_;rintro e w3 ⟨rfl,Zz,ZH⟩;have ZL:=Z' (YX.out.trans ZH);have YD:=Z' (Zh.out.keepL ZH);have HC:=Z' (Zy.out w3 Zz (ZL.out.bnd hB));clear Zz ZH Zy Zg j0 j1 j2 j3 j4 j5 j6;obtain⟨j0,j1,j2,j3,j4,j5,j6,-,-,-,-,-,-⟩:=YD.out.box;dsimp only at j0 j1 j2 j3 j4 j5 j6
  go_wp2_with fail
  refine HC.out.mono ?_;rintro e w4 ⟨rfl,YN,YJ⟩
  go_wp2_with fail
  go_ret;rw[ZS.out];exact⟨rfl,YN,ZL.out.trans YJ⟩
 have TT:((op:Int)==179)=false:=by rw[beq_eq_false_iff_ne];omega
 have UZ:=Zx;clear Zx;by_cases Zx:op=180
 ·have TH:((op:Int)==180)=true:=by rw[Zx];rfl
  have ZS:=Z' (show R=(s.need (xx ⟨op,n,m,cl,nm,ds,tx⟩) 8).member ⟨op,n,m,cl,nm,ds,tx⟩ 9 typeB by
   rw[HR.out];unfold LW.wide;rw[if_pos (show wK op=true by rw[Zx];decide)])
  clear HR Zx;have Zy:=Z' (fun w3 hs Tr=>ry w3 B g (s.need (xx ⟨op,n,m,cl,nm,ds,tx⟩) 8) ⟨op,n,m,cl,nm,ds,tx⟩ 9 23 typeB (fun args W=>rfl) (fun W s h1 h2=>ub W s h1 h2) hs HF.out hn Tr (by decide));dsimp only[IN.cells]at Zy;obtain⟨b,hb⟩:=Z8 (xx ⟨op,n,m,cl,nm,ds,tx⟩);rw[<-hb]at ZS Zy;unfold xx at hb;dsimp only at hb;generalize(s.need b 8).member ⟨op,n,m,cl,nm,ds,tx⟩ 9 typeB=Q at*;have Zg:=Z' (fun W (h:LoS W B g s)=>xk W B g s b 8 h);by_cases YK:n=0
  ·have t0:(n==0)=true:=by rw[YK];rfl
   by_cases X4:m=0
   ·have t1:(m==0)=true:=by rw[X4];rfl
    obtain⟨bt,WD⟩:=Z8 (decide (tx=[]));have t2:(tx==[])=bt:=by rw[WD,Bool.eq_iff_iff,beq_iff_eq,decide_eq_true_iff]
    have t3:tx.isEmpty=bt:=by rw[WD,Bool.eq_iff_iff,List.isEmpty_iff,decide_eq_true_iff]
    have X2:b=bt:=by rw[hb,WD];simp[YK,X4]
    subst X2;clear hb WD YK X4;go_enter func119,ntmps119
    go_upto_region 1 with fail
    generalize w.alloc _=W at*;obtain⟨j0,j1,j2,j3,j4,j5,j6,-,-,-,-,-,-⟩:=Zh.out.box;dsimp only at j0 j1 j2 j3 j4 j5 j6
    go_wp2_with fail
    refine(Zg.out W ZJ.out).mono ?_;rintro e w3 ⟨rfl,Zz,ZH⟩;have ZL:=Z' (YX.out.trans ZH);have YD:=Z' (Zh.out.keepL ZH);have HC:=Z' (Zy.out w3 Zz (ZL.out.bnd hB));clear Zz ZH Zy Zg j0 j1 j2 j3 j4 j5 j6;obtain⟨j0,j1,j2,j3,j4,j5,j6,-,-,-,-,-,-⟩:=YD.out.box;dsimp only at j0 j1 j2 j3 j4 j5 j6
    go_wp2_with fail
    refine HC.out.mono ?_;rintro e w4 ⟨rfl,YN,YJ⟩
    go_wp2_with fail
    go_ret;rw[ZS.out];exact⟨rfl,YN,ZL.out.trans YJ⟩
   have t1:(m==0)=false:=by simpa using X4
   have X2:b=false:=by rw[hb];exact decide_eq_false (fun h=>X4 h.2.1)
   subst X2;clear hb YK X4;go_enter func119,ntmps119
   go_upto_region 1 with fail
   generalize w.alloc _=W at*;obtain⟨j0,j1,j2,j3,j4,j5,j6,-,-,-,-,-,-⟩:=Zh.out.box;dsimp only at j0 j1 j2 j3 j4 j5 j6
   go_wp2_with fail
   refine(Zg.out W ZJ.out).mono ?_;rintro e w3 ⟨rfl,Zz,ZH⟩;have ZL:=Z' (YX.out.trans ZH);have YD:=Z' (Zh.out.keepL ZH);have HC:=Z' (Zy.out w3 Zz (ZL.out.bnd hB));clear Zz ZH Zy Zg j0 j1 j2 j3 j4 j5 j6;obtain⟨j0,j1,j2,j3,j4,j5,j6,-,-,-,-,-,-⟩:=YD.out.box;dsimp only at j0 j1 j2 j3 j4 j5 j6
   go_wp2_with fail
   refine HC.out.mono ?_;rintro e w4 ⟨rfl,YN,YJ⟩
   go_wp2_with fail
   go_ret;rw[ZS.out];exact⟨rfl,YN,ZL.out.trans YJ⟩
  have t0:(n==0)=false:=by simpa using YK
  have X2:b=false:=by rw[hb];exact decide_eq_false (fun h=>YK h.1)
  subst X2;clear hb YK;go_enter func119,ntmps119
  go_upto_region 1 with fail
  generalize w.alloc _=W at*;obtain⟨j0,j1,j2,j3,j4,j5,j6,-,-,-,-,-,-⟩:=Zh.out.box;dsimp only at j0 j1 j2 j3 j4 j5 j6
  go_wp2_with fail
  refine(Zg.out W ZJ.out).mono ?_;rintro e w3 ⟨rfl,Zz,ZH⟩;have ZL:=Z' (YX.out.trans ZH);have YD:=Z' (Zh.out.keepL ZH);have HC:=Z' (Zy.out w3 Zz (ZL.out.bnd hB));clear Zz ZH Zy Zg j0 j1 j2 j3 j4 j5 j6;obtain⟨j0,j1,j2,j3,j4,j5,j6,-,-,-,-,-,-⟩:=YD.out.box;dsimp only at j0 j1 j2 j3 j4 j5 j6
  go_wp2_with fail
  refine HC.out.mono ?_;rintro e w4 ⟨rfl,YN,YJ⟩
  go_wp2_with fail
  go_ret;rw[ZS.out];exact⟨rfl,YN,ZL.out.trans YJ⟩
 have TH:((op:Int)==180)=false:=by rw[beq_eq_false_iff_ne];omega
 have Uk:=Zx;clear Zx;by_cases Zx:op=181
 ·have TR:((op:Int)==181)=true:=by rw[Zx];rfl
  have ZS:=Z' (show R=(s.need (xx ⟨op,n,m,cl,nm,ds,tx⟩) 8).member ⟨op,n,m,cl,nm,ds,tx⟩ 9 typeB by
   rw[HR.out];unfold LW.wide;rw[if_pos (show wK op=true by rw[Zx];decide)])
  clear HR Zx;have Zy:=Z' (fun w3 hs Tr=>ry w3 B g (s.need (xx ⟨op,n,m,cl,nm,ds,tx⟩) 8) ⟨op,n,m,cl,nm,ds,tx⟩ 9 23 typeB (fun args W=>rfl) (fun W s h1 h2=>ub W s h1 h2) hs HF.out hn Tr (by decide));dsimp only[IN.cells]at Zy;obtain⟨b,hb⟩:=Z8 (xx ⟨op,n,m,cl,nm,ds,tx⟩);rw[<-hb]at ZS Zy;unfold xx at hb;dsimp only at hb;generalize(s.need b 8).member ⟨op,n,m,cl,nm,ds,tx⟩ 9 typeB=Q at*;have Zg:=Z' (fun W (h:LoS W B g s)=>xk W B g s b 8 h);by_cases YK:n=0
  ·have t0:(n==0)=true:=by rw[YK];rfl
   by_cases X4:m=0
   ·have t1:(m==0)=true:=by rw[X4];rfl
    obtain⟨bt,WD⟩:=Z8 (decide (tx=[]));have t2:(tx==[])=bt:=by rw[WD,Bool.eq_iff_iff,beq_iff_eq,decide_eq_true_iff]
    have t3:tx.isEmpty=bt:=by rw[WD,Bool.eq_iff_iff,List.isEmpty_iff,decide_eq_true_iff]
    have X2:b=bt:=by rw[hb,WD];simp[YK,X4]
    subst X2;clear hb WD YK X4;go_enter func119,ntmps119
    go_upto_region 1 with fail
    generalize w.alloc _=W at*;obtain⟨j0,j1,j2,j3,j4,j5,j6,-,-,-,-,-,-⟩:=Zh.out.box;dsimp only at j0 j1 j2 j3 j4 j5 j6
    go_wp2_with fail
    refine(Zg.out W ZJ.out).mono ?_;rintro e w3 ⟨rfl,Zz,ZH⟩;have ZL:=Z' (YX.out.trans ZH);have YD:=Z' (Zh.out.keepL ZH);have HC:=Z' (Zy.out w3 Zz (ZL.out.bnd hB));clear Zz ZH Zy Zg j0 j1 j2 j3 j4 j5 j6;obtain⟨j0,j1,j2,j3,j4,j5,j6,-,-,-,-,-,-⟩:=YD.out.box;dsimp only at j0 j1 j2 j3 j4 j5 j6
    go_wp2_with fail
    refine HC.out.mono ?_;rintro e w4 ⟨rfl,YN,YJ⟩
    go_wp2_with fail
    go_ret;rw[ZS.out];exact⟨rfl,YN,ZL.out.trans YJ⟩
   have t1:(m==0)=false:=by simpa using X4
   have X2:b=false:=by rw[hb];exact decide_eq_false (fun h=>X4 h.2.1)
   subst X2;clear hb YK X4;go_enter func119,ntmps119
   go_upto_region 1 with fail
   generalize w.alloc _=W at*;obtain⟨j0,j1,j2,j3,j4,j5,j6,-,-,-,-,-,-⟩:=Zh.out.box;dsimp only at j0 j1 j2 j3 j4 j5 j6
   go_wp2_with fail
   refine(Zg.out W ZJ.out).mono ?_;rintro e w3 ⟨rfl,Zz,ZH⟩;have ZL:=Z' (YX.out.trans ZH);have YD:=Z' (Zh.out.keepL ZH);have HC:=Z' (Zy.out w3 Zz (ZL.out.bnd hB));clear Zz ZH Zy Zg j0 j1 j2 j3 j4 j5 j6;obtain⟨j0,j1,j2,j3,j4,j5,j6,-,-,-,-,-,-⟩:=YD.out.box;dsimp only at j0 j1 j2 j3 j4 j5 j6
   go_wp2_with fail
   refine HC.out.mono ?_;rintro e w4 ⟨rfl,YN,YJ⟩
   go_wp2_with fail
   go_ret;rw[ZS.out];exact⟨rfl,YN,ZL.out.trans YJ⟩
  have t0:(n==0)=false:=by simpa using YK
  have X2:b=false:=by rw[hb];exact decide_eq_false (fun h=>YK h.1)
  subst X2;clear hb YK;go_enter func119,ntmps119
  go_upto_region 1 with fail
  generalize w.alloc _=W at*;obtain⟨j0,j1,j2,j3,j4,j5,j6,-,-,-,-,-,-⟩:=Zh.out.box;dsimp only at j0 j1 j2 j3 j4 j5 j6
  go_wp2_with fail
  refine(Zg.out W ZJ.out).mono ?_;rintro e w3 ⟨rfl,Zz,ZH⟩;have ZL:=Z' (YX.out.trans ZH);have YD:=Z' (Zh.out.keepL ZH);have HC:=Z' (Zy.out w3 Zz (ZL.out.bnd hB));clear Zz ZH Zy Zg j0 j1 j2 j3 j4 j5 j6;obtain⟨j0,j1,j2,j3,j4,j5,j6,-,-,-,-,-,-⟩:=YD.out.box;dsimp only at j0 j1 j2 j3 j4 j5 j6
  go_wp2_with fail
  refine HC.out.mono ?_;rintro e w4 ⟨rfl,YN,YJ⟩
  go_wp2_with fail
  go_ret;rw[ZS.out];exact⟨rfl,YN,ZL.out.trans YJ⟩
 have TR:((op:Int)==181)=false:=by rw[beq_eq_false_iff_ne];omega
 have TS:=Zx;clear Zx;by_cases Zx:op=182
 ·have TK:((op:Int)==182)=true:=by rw[Zx];rfl
  have ZS:=Z' (show R=(s.need (xx ⟨op,n,m,cl,nm,ds,tx⟩) 8).member ⟨op,n,m,cl,nm,ds,tx⟩ 10 xY by
   rw[HR.out];unfold LW.wide;rw[if_neg (show ¬wK op=true by rw[Zx];decide),if_pos (show vB op=true by rw[Zx];decide)])
  clear HR Zx;have Zy:=Z' (fun w3 hs Tr=>ry w3 B g (s.need (xx ⟨op,n,m,cl,nm,ds,tx⟩) 8) ⟨op,n,m,cl,nm,ds,tx⟩ 10 52 xY (fun args W=>rfl) (fun W s h1 h2=>rx W s h1 h2) hs HF.out hn Tr (by decide));dsimp only[IN.cells]at Zy;obtain⟨b,hb⟩:=Z8 (xx ⟨op,n,m,cl,nm,ds,tx⟩);rw[<-hb]at ZS Zy;unfold xx at hb;dsimp only at hb;generalize(s.need b 8).member ⟨op,n,m,cl,nm,ds,tx⟩ 10 xY=Q at*;have Zg:=Z' (fun W (h:LoS W B g s)=>xk W B g s b 8 h);by_cases YK:n=0
  ·have t0:(n==0)=true:=by rw[YK];rfl
   by_cases X4:m=0
   ·have t1:(m==0)=true:=by rw[X4];rfl
    obtain⟨bt,WD⟩:=Z8 (decide (tx=[]));have t2:(tx==[])=bt:=by rw[WD,Bool.eq_iff_iff,beq_iff_eq,decide_eq_true_iff]
    have t3:tx.isEmpty=bt:=by rw[WD,Bool.eq_iff_iff,List.isEmpty_iff,decide_eq_true_iff]
    have X2:b=bt:=by rw[hb,WD];simp[YK,X4]
    subst X2;clear hb WD YK X4;go_enter func119,ntmps119
    go_upto_region 1 with fail
    generalize w.alloc _=W at*;obtain⟨j0,j1,j2,j3,j4,j5,j6,-,-,-,-,-,-⟩:=Zh.out.box;dsimp only at j0 j1 j2 j3 j4 j5 j6
    go_wp2_with fail
    refine(Zg.out W ZJ.out).mono ?_;rintro e w3 ⟨rfl,Zz,ZH⟩;have ZL:=Z' (YX.out.trans ZH);have YD:=Z' (Zh.out.keepL ZH);have HC:=Z' (Zy.out w3 Zz (ZL.out.bnd hB));clear Zz ZH Zy Zg j0 j1 j2 j3 j4 j5 j6;obtain⟨j0,j1,j2,j3,j4,j5,j6,-,-,-,-,-,-⟩:=YD.out.box;dsimp only at j0 j1 j2 j3 j4 j5 j6
    go_wp2_with fail
    refine HC.out.mono ?_;rintro e w4 ⟨rfl,YN,YJ⟩
    go_wp2_with fail
    go_ret;rw[ZS.out];exact⟨rfl,YN,ZL.out.trans YJ⟩
   have t1:(m==0)=false:=by simpa using X4
   have X2:b=false:=by rw[hb];exact decide_eq_false (fun h=>X4 h.2.1)
   subst X2;clear hb YK X4;go_enter func119,ntmps119
   go_upto_region 1 with fail
   generalize w.alloc _=W at*;obtain⟨j0,j1,j2,j3,j4,j5,j6,-,-,-,-,-,-⟩:=Zh.out.box;dsimp only at j0 j1 j2 j3 j4 j5 j6
   go_wp2_with fail
   refine(Zg.out W ZJ.out).mono ?_;rintro e w3 ⟨rfl,Zz,ZH⟩;have ZL:=Z' (YX.out.trans ZH);have YD:=Z' (Zh.out.keepL ZH);have HC:=Z' (Zy.out w3 Zz (ZL.out.bnd hB));clear Zz ZH Zy Zg j0 j1 j2 j3 j4 j5 j6;obtain⟨j0,j1,j2,j3,j4,j5,j6,-,-,-,-,-,-⟩:=YD.out.box;dsimp only at j0 j1 j2 j3 j4 j5 j6
   go_wp2_with fail
   refine HC.out.mono ?_;rintro e w4 ⟨rfl,YN,YJ⟩
   go_wp2_with fail
   go_ret;rw[ZS.out];exact⟨rfl,YN,ZL.out.trans YJ⟩
  have t0:(n==0)=false:=by simpa using YK
  have X2:b=false:=by rw[hb];exact decide_eq_false (fun h=>YK h.1)
  subst X2;clear hb YK;go_enter func119,ntmps119
  go_upto_region 1 with fail
  generalize w.alloc _=W at*;obtain⟨j0,j1,j2,j3,j4,j5,j6,-,-,-,-,-,-⟩:=Zh.out.box;dsimp only at j0 j1 j2 j3 j4 j5 j6
  go_wp2_with fail
  refine(Zg.out W ZJ.out).mono ?_;rintro e w3 ⟨rfl,Zz,ZH⟩;have ZL:=Z' (YX.out.trans ZH);have YD:=Z' (Zh.out.keepL ZH);have HC:=Z' (Zy.out w3 Zz (ZL.out.bnd hB));clear Zz ZH Zy Zg j0 j1 j2 j3 j4 j5 j6;obtain⟨j0,j1,j2,j3,j4,j5,j6,-,-,-,-,-,-⟩:=YD.out.box;dsimp only at j0 j1 j2 j3 j4 j5 j6
  go_wp2_with fail
  refine HC.out.mono ?_;rintro e w4 ⟨rfl,YN,YJ⟩
  go_wp2_with fail
  go_ret;rw[ZS.out];exact⟨rfl,YN,ZL.out.trans YJ⟩
 have TK:((op:Int)==182)=false:=by rw[beq_eq_false_iff_ne];omega
 have Uq:=Zx;clear Zx;by_cases Zx:op=184
 ·have TY:((op:Int)==184)=true:=by rw[Zx];rfl
  have ZS:=Z' (show R=(s.need (xx ⟨op,n,m,cl,nm,ds,tx⟩) 8).member ⟨op,n,m,cl,nm,ds,tx⟩ 10 xY by
   rw[HR.out];unfold LW.wide;rw[if_neg (show ¬wK op=true by rw[Zx];decide),if_pos (show vB op=true by rw[Zx];decide)])
  clear HR Zx;have Zy:=Z' (fun w3 hs Tr=>ry w3 B g (s.need (xx ⟨op,n,m,cl,nm,ds,tx⟩) 8) ⟨op,n,m,cl,nm,ds,tx⟩ 10 52 xY (fun args W=>rfl) (fun W s h1 h2=>rx W s h1 h2) hs HF.out hn Tr (by decide));dsimp only[IN.cells]at Zy;obtain⟨b,hb⟩:=Z8 (xx ⟨op,n,m,cl,nm,ds,tx⟩);rw[<-hb]at ZS Zy;unfold xx at hb;dsimp only at hb;generalize(s.need b 8).member ⟨op,n,m,cl,nm,ds,tx⟩ 10 xY=Q at*;have Zg:=Z' (fun W (h:LoS W B g s)=>xk W B g s b 8 h);by_cases YK:n=0
  ·have t0:(n==0)=true:=by rw[YK];rfl
   by_cases X4:m=0
   ·have t1:(m==0)=true:=by rw[X4];rfl
    obtain⟨bt,WD⟩:=Z8 (decide (tx=[]));have t2:(tx==[])=bt:=by rw[WD,Bool.eq_iff_iff,beq_iff_eq,decide_eq_true_iff]
    have t3:tx.isEmpty=bt:=by rw[WD,Bool.eq_iff_iff,List.isEmpty_iff,decide_eq_true_iff]
    have X2:b=bt:=by rw[hb,WD];simp[YK,X4]
    subst X2;clear hb WD YK X4;go_enter func119,ntmps119
    go_upto_region 1 with fail
    generalize w.alloc _=W at*;obtain⟨j0,j1,j2,j3,j4,j5,j6,-,-,-,-,-,-⟩:=Zh.out.box;dsimp only at j0 j1 j2 j3 j4 j5 j6
    go_wp2_with fail
    refine(Zg.out W ZJ.out).mono ?_;rintro e w3 ⟨rfl,Zz,ZH⟩;have ZL:=Z' (YX.out.trans ZH);have YD:=Z' (Zh.out.keepL ZH);have HC:=Z' (Zy.out w3 Zz (ZL.out.bnd hB));clear Zz ZH Zy Zg j0 j1 j2 j3 j4 j5 j6;obtain⟨j0,j1,j2,j3,j4,j5,j6,-,-,-,-,-,-⟩:=YD.out.box;dsimp only at j0 j1 j2 j3 j4 j5 j6
    go_wp2_with fail
    refine HC.out.mono ?_;rintro e w4 ⟨rfl,YN,YJ⟩
    go_wp2_with fail
    go_ret;rw[ZS.out];exact⟨rfl,YN,ZL.out.trans YJ⟩
   have t1:(m==0)=false:=by simpa using X4
   have X2:b=false:=by rw[hb];exact decide_eq_false (fun h=>X4 h.2.1)
   subst X2;clear hb YK X4;go_enter func119,ntmps119
   go_upto_region 1 with fail
   generalize w.alloc _=W at*;obtain⟨j0,j1,j2,j3,j4,j5,j6,-,-,-,-,-,-⟩:=Zh.out.box;dsimp only at j0 j1 j2 j3 j4 j5 j6
   go_wp2_with fail
   refine(Zg.out W ZJ.out).mono ?_;rintro e w3 ⟨rfl,Zz,ZH⟩;have ZL:=Z' (YX.out.trans ZH);have YD:=Z' (Zh.out.keepL ZH);have HC:=Z' (Zy.out w3 Zz (ZL.out.bnd hB));clear Zz ZH Zy Zg j0 j1 j2 j3 j4 j5 j6;obtain⟨j0,j1,j2,j3,j4,j5,j6,-,-,-,-,-,-⟩:=YD.out.box;dsimp only at j0 j1 j2 j3 j4 j5 j6
   go_wp2_with fail
   refine HC.out.mono ?_;rintro e w4 ⟨rfl,YN,YJ⟩
   go_wp2_with fail
   go_ret;rw[ZS.out];exact⟨rfl,YN,ZL.out.trans YJ⟩
  have t0:(n==0)=false:=by simpa using YK
  have X2:b=false:=by rw[hb];exact decide_eq_false (fun h=>YK h.1)
  subst X2;clear hb YK;go_enter func119,ntmps119
  go_upto_region 1 with fail
  generalize w.alloc _=W at*;obtain⟨j0,j1,j2,j3,j4,j5,j6,-,-,-,-,-,-⟩:=Zh.out.box;dsimp only at j0 j1 j2 j3 j4 j5 j6
  go_wp2_with fail
  refine(Zg.out W ZJ.out).mono ?_;rintro e w3 ⟨rfl,Zz,ZH⟩;have ZL:=Z' (YX.out.trans ZH);have YD:=Z' (Zh.out.keepL ZH);have HC:=Z' (Zy.out w3 Zz (ZL.out.bnd hB));clear Zz ZH Zy Zg j0 j1 j2 j3 j4 j5 j6;obtain⟨j0,j1,j2,j3,j4,j5,j6,-,-,-,-,-,-⟩:=YD.out.box;dsimp only at j0 j1 j2 j3 j4 j5 j6
  go_wp2_with fail
  refine HC.out.mono ?_;rintro e w4 ⟨rfl,YN,YJ⟩
  go_wp2_with fail
  go_ret;rw[ZS.out];exact⟨rfl,YN,ZL.out.trans YJ⟩
 have TY:((op:Int)==184)=false:=by rw[beq_eq_false_iff_ne];omega
 have TV:=Zx;clear Zx
 have ZS:=Z' (show R=(s.need (tQ ⟨op,n,m,cl,nm,ds,tx⟩) 8).cls cl (decide (op≠187)) by
  rw[HR.out];unfold LW.wide;rw[if_neg (show ¬wK op=true by unfold wK;simp[Ve,UZ,Uk,TS]),if_neg (show ¬vB op=true by unfold vB;simp[Uq,TV])])
 have hg:=mY
 have he:∀W,(Op.equalIn 10000 yU (.agg #[.int .u8 (op:Nat),.int .i64 n,.int .i64 m,.string ⟨cl.toArray⟩,.string ⟨nm.toArray⟩,.string ⟨ds.toArray⟩,.string ⟨tx.toArray⟩]) (.agg #[.int .u8 (op:Nat),.int .i64 0,.int .i64 0,.string ⟨cl.toArray⟩,.string ⟨#[]⟩,.string ⟨#[]⟩,.string ⟨#[]⟩])).run prog W= .ok (tQ ⟨op,n,m,cl,nm,ds,tx⟩) W:=fun W=>by
  have h:=Vk W ⟨op,0,0,cl,[],[],[]⟩;rw[show uP ⟨op,n,m,cl,nm,ds,tx⟩ ⟨op,0,0,cl,[],[],[]⟩=tQ ⟨op,n,m,cl,nm,ds,tx⟩ by unfold uP tQ;simp]at h;exact h
 obtain⟨b,hb⟩:=Z8 (tQ ⟨op,n,m,cl,nm,ds,tx⟩);rw[<-hb]at ZS he;obtain⟨ar,Fj⟩:=Z8 (decide (op≠187));rw[<-Fj]at ZS
 have ZF:((op:Int) !=187)=ar:=by
  rw[Fj];by_cases h:op=187
  ·subst h;rfl
  have:¬(op:Int)=187:=by omega
  simp[h,this]
 have Y4:=Z' (fun w3 hs Tr=>sG w3 B g (s.need b 8) cl ar hs HF.out.cl (show s.l.length<=_ by omega) Tr);generalize(s.need b 8).cls cl ar=Q at*;have Zg:=Z' (fun W (h:LoS W B g s)=>xk W B g s b 8 h);clear hb Fj Ve UZ Uk TS Uq TV Vk HR;go_enter func119,ntmps119
 go_upto_region 1 with fail
 generalize w.alloc _=W at*;obtain⟨j0,j1,j2,j3,j4,j5,j6,-,-,-,-,-,-⟩:=Zh.out.box;dsimp only at j0 j1 j2 j3 j4 j5 j6
 go_wp2_with fail
 refine(Zg.out W ZJ.out).mono ?_;rintro e w3 ⟨rfl,Zz,ZH⟩;have ZL:=Z' (YX.out.trans ZH);have YD:=Z' (Zh.out.keepL ZH);have HC:=Z' (Y4.out w3 Zz (ZL.out.bnd hB));clear Zz ZH Y4 Zg j0 j1 j2 j3 j4 j5 j6;obtain⟨j0,j1,j2,j3,j4,j5,j6,-,-,-,-,-,-⟩:=YD.out.box;dsimp only at j0 j1 j2 j3 j4 j5 j6
 go_wp2_with fail
 refine HC.out.mono ?_;rintro e w4 ⟨rfl,YN,YJ⟩
 go_wp2_with fail
 go_ret;rw[ZS.out];exact⟨rfl,YN,ZL.out.trans YJ⟩
def rZ(B:Nat)(a:Option Addr)(n:Nat):Prop:=0<n->∀b off,a=some ⟨b,off,none⟩->b<B
theorem yR.ss{B:Nat}{α:Type}{z:Nat}{enc:α->List Value}{w w':World}{x:Option Addr}{n:Nat}{xs:List α}(h:yR B w w')(hs:Ss z enc w x n xs)(h1:rZ B x n):Ss z enc w' x n xs:=by
 refine⟨hs.1,fun hn=> ?_⟩;obtain⟨b,off,ha,ZX,hc⟩:=hs.2 hn;refine⟨b,off,ha,Nat.lt_of_lt_of_le ZX h.size,fun i hi j hj=> ?_⟩;rw[<-hc i hi j hj];unfold World.cell?;rw[h.block b ZX (.inl (h1 hn b off ha))]
theorem yR.sl{B:Nat}{α:Type}{enc:α->Value}{w w':World}{x:Option Addr}{n:Nat}{xs:List α}(h:yR B w w')(hs:Sl enc w x n xs)(h1:rZ B x n):Sl enc w' x n xs:=by
 refine⟨hs.1,fun hn=> ?_⟩;obtain⟨b,off,ha,ZX,hc⟩:=hs.2 hn;refine⟨b,off,ha,Nat.lt_of_lt_of_le ZX h.size,fun i hi=> ?_⟩;rw[<-hc i hi];unfold World.cell?;rw[h.block b ZX (.inl (h1 hn b off ha))]
theorem yR.thenB{B:Nat}{w W w9:World}(h:yR B w W)(hb:Below w.heap.size W w9):yR B w w9:=
 ⟨hb.os.trans h.os,hb.tape.trans h.tape,hb.output.trans h.output,Nat.le_trans h.size hb.size,fun k hk hg=>by rw[hb.block k hk,h.block k hk hg]⟩
theorem LoS.app{w w9:World}{B g:Nat}{s:LW}{o:Obj}{B':Nat}{e:TypeId}{size:Nat}{v:Value}{n:Nat}{xs:List Value}(h:LoS w B g s)(ho:w.ownsRow B' e size v n xs)(hg:(w.alloc o).grownBy w9 v.ownBlock)(h1:e≠x7)(h2:e≠wi)(h3:0<B'):LoS w9 B g s:=by
 obtain⟨a,cap,b,h⟩:=h;have Zt:=yd.app ho hg;have ZY:=yV w o;refine⟨a,cap,b,⟨Zt.2 _ _ _ _ h.k (Ne.symm h2),xA h.o Zt (Ne.symm h1),(h.m.below ZY).kept hg (eN (wE ho ZY) (h.m.below ZY).obj),h.bB,h.gB,h.B0,?_⟩⟩;obtain⟨m,hm⟩:=h.vw;refine⟨m,?_⟩
 have ZX:0<w.heap.size:=by
  rcases Nat.eq_zero_or_pos w.heap.size with h1|h1
  ·exfalso;have:w.heap[0]? =none:=Array.getElem?_eq_none (by omega);simp[World.cell?,this]at hm
  exact h1
 rw[<-hm];unfold World.cell?;rw[hg.block 0 (Nat.lt_of_lt_of_le ZX ZY.size) (fun e9=>by have:=(ho.lt 0 e9.symm).1;omega),ZY.block 0 ZX]
theorem az(s:LW)(l:List (List UInt8))(t:List UInt8):s.slots (l++[t])=((((s.slots l).1).slot t).1,(s.slots l).2++[(((s.slots l).1).slot t).2]):=by
 induction l generalizing s with
 |nil=>rfl
 |cons x l ih=>
  rw[List.cons_append,LW.slots,LW.slots,ih];rfl
theorem pm(s:LW)(l:List (List UInt8)):(s.slots l).1.l.length<=s.l.length+4*l.length:=by
 induction l generalizing s with
 |nil=>exact Nat.le_refl _
 |cons x l ih=>
  rw[LW.slots];have h1:=D9z s x;have h2:=ih (s.slot x).1;simp only[List.length_cons];omega
theorem im(s:LW)(l:List (List UInt8)):(s.slots l).2.length=l.length:=by
 induction l generalizing s with
 |nil=>rfl
 |cons x l ih=>
  rw[LW.slots,List.length_cons,List.length_cons,ih]
theorem rf:StE 66 174 (.agg #[.int .i64 0,.int .i64 0]) 2 16:=⟨by kernel_rfl,by kernel_rfl,rfl⟩
theorem wW.keepL{B:Nat}{w w':World}{g:Nat}{x y:Value}{t:TypeId}(h:wW w g x y t)(hk:yR B w w')(h1:t≠x7)(h2:t≠wi):wW w' g x y t:=hk.row h h1 h2
theorem LoS.setO{w:World}{B g:Nat}{s:LW}{h9:Nat}{cs:Array Value}{t:TypeId}{fr:Nat×Nat}(h:LoS w B g s)(hx:w.heap[h9]? =some (.cells cs t fr))(h1:t≠x7)(h2:t≠wi)(h0:0<h9)(o:Nat)(v:Value):LoS (w.setCell ⟨h9,o,none⟩ v) B g s:=by
 obtain⟨a,cap,b,h⟩:=h;have Zt:=uz hx o v
 have ZF:b≠h9:=by
  rintro rfl;obtain⟨es,cl,hm⟩:=h.m.obj;rw[hm]at hx
  cases hx
 refine⟨a,cap,b,⟨Zt.2 _ _ _ _ h.k (Ne.symm h2),xA h.o Zt (Ne.symm h1),h.m.setCell ZF _,h.bB,h.gB,h.B0,?_⟩⟩;obtain⟨m,hm⟩:=h.vw;refine⟨m,?_⟩;rw[<-hm];unfold World.cell? World.setCell;have:¬h9=0:=by omega
 simp[Array.getElem?_modify,this]
theorem Sl.getE{α:Type}{enc:α->Value}{w:World}{a:Option Addr}{n:Nat}{xs:List α}(h:Sl enc w a n xs)(j:Nat)(hj:j<n):∃b off x,a=some ⟨b,off,none⟩/\b<w.heap.size/\xs[j]? =some x/\w.cell? ⟨b,off+j,none⟩=some (enc x):=by
 obtain⟨b,off,ha,ZX,hc⟩:=h.2 (by omega);have hl:j<xs.length:=by rw[h.1];exact hj
 exact⟨b,off,xs[j],ha,ZX,List.getElem?_eq_getElem hl,hc j hl⟩
theorem rj{w:World}{B:Nat}{e:TypeId}{size:Nat}{v:Value}{n:Nat}{xs:List Value}{g:Nat}(h:w.ownsRow B e size v n xs)(ZF:∀k,v.ownBlock=some k->k≠g)(o:Nat)(u:Value):(w.setCell ⟨g,o,none⟩ u).ownsRow B e size v n xs:=by
 refine⟨h.1,?_⟩
 rcases h.2 with h1|⟨b,cap,cur,hv,hB,hc,r⟩
 ·exact .inl h1
 exact .inr ⟨b,cap,cur,hv,hB,wQ hc (ZF b (by rw[hv];rfl)) o u,r⟩
theorem gR(t:List UInt8):(u' t).length<=t.length:=by
 unfold u';split
 ·rw[List.length_drop,List.length_take];omega
 simp
def mE(B g:Nat)(s:LW)(l:List (List UInt8))(n:Nat)(w:World)(e:Ending)(w':World):Prop:=
 ∃oa oc,e= .returned (.slice oa n oc)/\w'.ownsRow w.heap.size 174 2 (.slice oa n oc) n ((s.slots l).2.flatMap KS.cells)/\LoS w' B g (s.slots l).1/\yR B w w'
theorem jx(w:World)(B g:Nat)(s:LW)(a:Option Addr)(n cap:Nat)(l:List (List UInt8))(h:LoS w B g s)(hl:Sl xX w a n l)(hb:rZ B a n)(hf:∀t∈l,t.length<=65536)(hn:n<=1024)(hsz:s.l.length<=999999000000)(hB:B<=w.heap.size)(N9:0<B):
  Calls prog 75 #[.pointer (some ⟨g,0,none⟩),.slice a n cap] w (mE B g s l n w):=by
 have YZ:=Z' h;have HL:=Z' hl;have Zd:=Z' hl.1;have Jj:=Z' hb;have HF:=Z' hf;have Xj:=Z' hB;have VB:0<w.heap.size:=by omega
 clear h hl hb hf hB;go_enter func75,ntmps75
 go_wp2_with fail
 go_loopg [5,13] n (fun gn ov i wr=>∃(j:Nat) (oa:Option Addr) (oc:Nat),j<=n/\gn=n-j/\ov= .slice oa j oc/\i= .int .i64 j/\Hid (LoS wr B g (s.slots (l.take j)).1)/\Hid (yR B w wr)/\Hid (wr.ownsRow w.heap.size 174 2 (.slice oa j oc) j ((s.slots (l.take j)).2.flatMap KS.cells)))
 case atStart=>exact⟨0,none,0,by omega,by omega,rfl,by go_num,YZ,Z' (yR.refl _ _),Z' (World.ownsRow_nil _ _ _ _)⟩
 obtain⟨j,oa,oc,hj,rfl,rfl,rfl,HS,HK,HO⟩:=hrel;have Pa:w.heap.size<=wr.heap.size:=HK.out.size;by_cases ZX:j<n
 ·obtain⟨b,off,t,rfl,Zu,ht,q⟩:=(HK.out.sl HL.out Jj.out).getE j ZX;unfold xX at q;have XZ:(j:Int)<n:=by omega
  have HT:=Z' (HF.out t (List.mem_of_getElem? ht))
  have Ze:=Z' (show s.slots (l.take (j+1))=((((s.slots (l.take j)).1).slot t).1,(s.slots (l.take j)).2++[(((s.slots (l.take j)).1).slot t).2]) by
   have YP:=(Z4 ht).1;rw[List.take_succ_eq_append_getElem YP,(Z4 ht).2,az])
  have ZR:((s.slots (l.take j)).1).l.length<=s.l.length+4*j:=by
   have h1:=pm s (l.take j);rw[List.length_take,Zd.out,Nat.min_eq_left hj]at h1;exact h1
  generalize s.slots (l.take j)=SJ at*;obtain⟨sj,lj⟩:=SJ;dsimp only at HS HO Ze ZR;obtain⟨RS,Gk⟩:=Z8 (sj.slot t);rw[<-Gk]at Ze;have Vn:=Z' Gk;clear Gk ht;have Xc:=Z' (fun W=>cL W t HT.out);have ND:=Z' (fun W (hv:VW W)=>pM W t HT.out hv)
  go_upto_region 6 with fail
  have ZY:Below wr.heap.size wr (wr.alloc (.cells #[.int .i64 7,.int .i64 0] 174)):=yV _ _;have VP:=Z9 (wW (wr.alloc (.cells #[.int .i64 7,.int .i64 0] 174)) wr.heap.size (.int .i64 7) (.int .i64 0) 174) (heap_alloc_last wr _);have ZJ:=Z' (HS.out.below ZY);have Za:=Z' (HK.out.trans (yR.of ZY));have Xk:=Z' (wE HO.out ZY);have RX:0<wr.heap.size:=by omega
  have Pp:=Z' (fun k (h:(Value.slice oa j oc).ownBlock=some k)=>Nat.ne_of_lt ((HO.out.lt k h).2));clear ZY HS HK HO q Zu;generalize wr.alloc _=W at*;generalize wr.heap.size=gs at*;obtain⟨ok,XC⟩:=Z8 (vr t);have Q5:=Z' XC;rw[<-XC]at Xc;generalize hsv:u' t=sv at*;have B4:=Z' hsv;clear XC hsv;by_cases h84:t=[84]
  ·have QU:=Z' h84;clear h84;have ZS:=Z' (show RS=(sj,⟨0,0⟩) by rw[Vn.out,QU.out];rfl);have JB:(t==[84])=true:=by rw[QU.out];rfl
   have K0:(t==[73])=false:=by rw[QU.out];rfl
   have Qj:(t==[74])=false:=by rw[QU.out];rfl
   have JP:(t==[78])=false:=by rw[QU.out];rfl
   obtain⟨c0,c1,f0,f1,lt⟩:=VP.out.box
   go_wp2_with fail
   refine(Xc.out W).mono ?_;rintro e W0 ⟨rfl,Vr⟩;replace Vr:=Vr.symm;subst Vr
   go_upto_region 19 with fail
   have Tq:=Z9 (wW (W.setCell ⟨gs,0,none⟩ (.int .i64 0)) gs (.int .i64 0) (.int .i64 0) 174) VP.out.set0;have Vs:=Z' (ZJ.out.setO VP.out (by decide) (by decide) RX 0 (.int .i64 0));have TF:=Z' (Za.out.thenB (show Below w.heap.size W (W.setCell ⟨gs,0,none⟩ (.int .i64 0))from Z6.setCell Pa _));have TQ:=Z' (rj Xk.out Pp.out 0 (.int .i64 0));clear c0 c1 f0 f1 lt VP ZJ Za Xk;generalize W.setCell ⟨gs,0,none⟩ (.int .i64 0)=V at*;have Qb:j<=1024:=by omega
   have YS:w.heap.size<=V.heap.size:=TF.out.size;obtain⟨c0,c1,f0,f1,lt⟩:=Tq.out.box
   go_wp2_with (at_builtin;refine wU rf rfl _ _ rfl w.heap.size _ j _ rfl TQ.out _ 1 _ _ rfl (by simp) rfl rfl (by omega) (by unfold maxLen;omega) YS ?_;intro v9 w9 Z0 ZA ZK;have ZW:w9.ownsRow w.heap.size 174 2 v9 (j+1) ((lj++[(⟨0,0⟩:KS)]).flatMap KS.cells):=(by rw[List.flatMap_append];exact Z0);obtain⟨a9,c9,rfl,-,-⟩:=Ss.ofOwn KS.cells_length (by decide) ZW;have X3:=Z' ZW;have Rg:=Z' (Vs.out.app TQ.out ZA (by decide) (by decide) VB);have WT:=Z' (TF.out.thenB ZK);clear Z0 ZW ZA ZK c0 c1 f0 f1 lt)
   go_roundg (n-(j+1))
   case measure=>omega
   exact⟨j+1,_,_,by omega,rfl,rfl,by go_num,Z' (by rw[Ze.out,ZS.out];exact Rg.out),WT,Z' (by rw[Ze.out,ZS.out];exact X3.out)⟩
  by_cases XK:t=[73]
  ·have Qx:=Z' XK;clear XK;have ZS:=Z' (show RS=(sj,⟨1,0⟩) by rw[Vn.out,Qx.out];rfl);have K0:(t==[73])=true:=by rw[Qx.out];rfl
   have JB:(t==[84])=false:=by rw[Qx.out];rfl
   have Qj:(t==[74])=false:=by rw[Qx.out];rfl
   have JP:(t==[78])=false:=by rw[Qx.out];rfl
   obtain⟨c0,c1,f0,f1,lt⟩:=VP.out.box
   go_wp2_with fail
   refine(Xc.out W).mono ?_;rintro e W0 ⟨rfl,Vr⟩;replace Vr:=Vr.symm;subst Vr
   go_upto_region 19 with fail
   have Tq:=Z9 (wW (W.setCell ⟨gs,0,none⟩ (.int .i64 1)) gs (.int .i64 1) (.int .i64 0) 174) VP.out.set0;have Vs:=Z' (ZJ.out.setO VP.out (by decide) (by decide) RX 0 (.int .i64 1));have TF:=Z' (Za.out.thenB (show Below w.heap.size W (W.setCell ⟨gs,0,none⟩ (.int .i64 1))from Z6.setCell Pa _));have TQ:=Z' (rj Xk.out Pp.out 0 (.int .i64 1));clear c0 c1 f0 f1 lt VP ZJ Za Xk;generalize W.setCell ⟨gs,0,none⟩ (.int .i64 1)=V at*;have Qb:j<=1024:=by omega
   have YS:w.heap.size<=V.heap.size:=TF.out.size;obtain⟨c0,c1,f0,f1,lt⟩:=Tq.out.box
   go_wp2_with (at_builtin;refine wU rf rfl _ _ rfl w.heap.size _ j _ rfl TQ.out _ 1 _ _ rfl (by simp) rfl rfl (by omega) (by unfold maxLen;omega) YS ?_;intro v9 w9 Z0 ZA ZK;have ZW:w9.ownsRow w.heap.size 174 2 v9 (j+1) ((lj++[(⟨1,0⟩:KS)]).flatMap KS.cells):=(by rw[List.flatMap_append];exact Z0);obtain⟨a9,c9,rfl,-,-⟩:=Ss.ofOwn KS.cells_length (by decide) ZW;have X3:=Z' ZW;have Rg:=Z' (Vs.out.app TQ.out ZA (by decide) (by decide) VB);have WT:=Z' (TF.out.thenB ZK);clear Z0 ZW ZA ZK c0 c1 f0 f1 lt)
   go_roundg (n-(j+1))
   case measure=>omega
   exact⟨j+1,_,_,by omega,rfl,rfl,by go_num,Z' (by rw[Ze.out,ZS.out];exact Rg.out),WT,Z' (by rw[Ze.out,ZS.out];exact X3.out)⟩
  by_cases Ye:t=[74]
  ·have Qz:=Z' Ye;clear Ye;have ZS:=Z' (show RS=(sj,⟨4,0⟩) by rw[Vn.out,Qz.out];rfl);have Qj:(t==[74])=true:=by rw[Qz.out];rfl
   have JB:(t==[84])=false:=by rw[Qz.out];rfl
   have K0:(t==[73])=false:=by rw[Qz.out];rfl
   have JP:(t==[78])=false:=by rw[Qz.out];rfl
   obtain⟨c0,c1,f0,f1,lt⟩:=VP.out.box
   go_wp2_with fail
   refine(Xc.out W).mono ?_;rintro e W0 ⟨rfl,Vr⟩;replace Vr:=Vr.symm;subst Vr
   go_upto_region 19 with fail
   have Tq:=Z9 (wW (W.setCell ⟨gs,0,none⟩ (.int .i64 4)) gs (.int .i64 4) (.int .i64 0) 174) VP.out.set0;have Vs:=Z' (ZJ.out.setO VP.out (by decide) (by decide) RX 0 (.int .i64 4));have TF:=Z' (Za.out.thenB (show Below w.heap.size W (W.setCell ⟨gs,0,none⟩ (.int .i64 4))from Z6.setCell Pa _));have TQ:=Z' (rj Xk.out Pp.out 0 (.int .i64 4));clear c0 c1 f0 f1 lt VP ZJ Za Xk;generalize W.setCell ⟨gs,0,none⟩ (.int .i64 4)=V at*;have Qb:j<=1024:=by omega
   have YS:w.heap.size<=V.heap.size:=TF.out.size;obtain⟨c0,c1,f0,f1,lt⟩:=Tq.out.box
   go_wp2_with (at_builtin;refine wU rf rfl _ _ rfl w.heap.size _ j _ rfl TQ.out _ 1 _ _ rfl (by simp) rfl rfl (by omega) (by unfold maxLen;omega) YS ?_;intro v9 w9 Z0 ZA ZK;have ZW:w9.ownsRow w.heap.size 174 2 v9 (j+1) ((lj++[(⟨4,0⟩:KS)]).flatMap KS.cells):=(by rw[List.flatMap_append];exact Z0);obtain⟨a9,c9,rfl,-,-⟩:=Ss.ofOwn KS.cells_length (by decide) ZW;have X3:=Z' ZW;have Rg:=Z' (Vs.out.app TQ.out ZA (by decide) (by decide) VB);have WT:=Z' (TF.out.thenB ZK);clear Z0 ZW ZA ZK c0 c1 f0 f1 lt)
   go_roundg (n-(j+1))
   case measure=>omega
   exact⟨j+1,_,_,by omega,rfl,rfl,by go_num,Z' (by rw[Ze.out,ZS.out];exact Rg.out),WT,Z' (by rw[Ze.out,ZS.out];exact X3.out)⟩
  by_cases h78:t=[78]
  ·have QV:=Z' h78;clear h78;have ZS:=Z' (show RS=(sj,⟨5,0⟩) by rw[Vn.out,QV.out];rfl);have JP:(t==[78])=true:=by rw[QV.out];rfl
   have JB:(t==[84])=false:=by rw[QV.out];rfl
   have K0:(t==[73])=false:=by rw[QV.out];rfl
   have Qj:(t==[74])=false:=by rw[QV.out];rfl
   obtain⟨c0,c1,f0,f1,lt⟩:=VP.out.box
   go_wp2_with fail
   refine(Xc.out W).mono ?_;rintro e W0 ⟨rfl,Vr⟩;replace Vr:=Vr.symm;subst Vr
   go_upto_region 19 with fail
   have Tq:=Z9 (wW (W.setCell ⟨gs,0,none⟩ (.int .i64 5)) gs (.int .i64 5) (.int .i64 0) 174) VP.out.set0;have Vs:=Z' (ZJ.out.setO VP.out (by decide) (by decide) RX 0 (.int .i64 5));have TF:=Z' (Za.out.thenB (show Below w.heap.size W (W.setCell ⟨gs,0,none⟩ (.int .i64 5))from Z6.setCell Pa _));have TQ:=Z' (rj Xk.out Pp.out 0 (.int .i64 5));clear c0 c1 f0 f1 lt VP ZJ Za Xk;generalize W.setCell ⟨gs,0,none⟩ (.int .i64 5)=V at*;have Qb:j<=1024:=by omega
   have YS:w.heap.size<=V.heap.size:=TF.out.size;obtain⟨c0,c1,f0,f1,lt⟩:=Tq.out.box
   go_wp2_with (at_builtin;refine wU rf rfl _ _ rfl w.heap.size _ j _ rfl TQ.out _ 1 _ _ rfl (by simp) rfl rfl (by omega) (by unfold maxLen;omega) YS ?_;intro v9 w9 Z0 ZA ZK;have ZW:w9.ownsRow w.heap.size 174 2 v9 (j+1) ((lj++[(⟨5,0⟩:KS)]).flatMap KS.cells):=(by rw[List.flatMap_append];exact Z0);obtain⟨a9,c9,rfl,-,-⟩:=Ss.ofOwn KS.cells_length (by decide) ZW;have X3:=Z' ZW;have Rg:=Z' (Vs.out.app TQ.out ZA (by decide) (by decide) VB);have WT:=Z' (TF.out.thenB ZK);clear Z0 ZW ZA ZK c0 c1 f0 f1 lt)
   go_roundg (n-(j+1))
   case measure=>omega
   exact⟨j+1,_,_,by omega,rfl,rfl,by go_num,Z' (by rw[Ze.out,ZS.out];exact Rg.out),WT,Z' (by rw[Ze.out,ZS.out];exact X3.out)⟩
  cases ok
  ·have ZS:=Z' (show RS=(((sj.need (x6 t) 8).cls t true).1,⟨7,(((sj.need (x6 t) 8).cls t true).2:Nat)⟩) by
    rw[Vn.out];unfold LW.slot
    rw[if_neg h84,if_neg XK,if_neg Ye,if_neg h78,if_neg (fun h=>by rw[<-Q5.out]at h;cases h)])
   generalize x6 t=ab at*;have HC:=Z' (fun V hs Yc=>sG V B g (sj.need ab 8) t true hs HT.out (show sj.l.length<=_ by omega) Yc);have Zg:=Z' (fun V (h:LoS V B g sj)=>xk V B g sj ab 8 h);generalize(sj.need ab 8).cls t true=C5 at*;obtain⟨s5,i5⟩:=C5;dsimp only at HC ZS;have Zm:=Z9 (VW W) (by obtain⟨a,cap,b,h⟩:=ZJ.out;exact h.vw);have JB:(t==[84])=false:=by simpa using h84
   have K0:(t==[73])=false:=by simpa using XK
   have Qj:(t==[74])=false:=by simpa using Ye
   have JP:(t==[78])=false:=by simpa using h78
   clear h84 XK Ye h78
   go_wp2_with fail
   refine(Xc.out W).mono ?_;rintro e W0 ⟨rfl,Vr⟩;replace Vr:=Vr.symm;subst Vr
   go_wp2_with fail
   refine(ND.out W Zm.out).mono ?_;rintro e V1 ⟨rfl,ZQ⟩;have ZM:=Z9 (wW V1 gs (.int .i64 7) (.int .i64 0) 174) (yW VP.out ZQ);have Yg:=Z' (ZJ.out.below ZQ);have Y0:=Z' (Za.out.trans (yR.of ZQ));have Ts:=Z' (wE Xk.out ZQ);clear ZQ VP ZJ Za Xk
   go_wp2_with fail
   refine(Zg.out V1 Yg.out).mono ?_;rintro e V2 ⟨rfl,Zz,ZH⟩;have ZG:=Z' (ZM.out.keepL ZH (by decide) (by decide));have Vt:=Z' Zz;have ZL:=Z' (Y0.out.trans ZH);have VX:=Z' (yR.own Ts.out ZH (by decide) (by decide));clear Zz ZH ZM Yg Y0 Ts
   go_wp2_with fail
   refine(HC.out V2 Vt.out (Nat.le_trans Xj.out ZL.out.size)).mono ?_;rintro e V0 ⟨rfl,X',X5⟩;have X9:=Z' (ZG.out.keepL X5 (by decide) (by decide));have QX:=Z' X';have XD:=Z' (ZL.out.trans X5);have U7:=Z' (yR.own VX.out X5 (by decide) (by decide));clear X' X5 HC ZG Vt ZL VX;obtain⟨c0,c1,f0,f1,lt⟩:=X9.out.box
   go_upto_region 19 with fail
   have Tq:=Z9 (wW (V0.setCell ⟨gs,1,none⟩ (.int .i64 (i5:Nat))) gs (.int .i64 7) (.int .i64 (i5:Nat)) 174) X9.out.set1;have Vs:=Z' (QX.out.setO X9.out (by decide) (by decide) RX 1 (.int .i64 (i5:Nat)));have TF:=Z' (XD.out.thenB (show Below w.heap.size V0 (V0.setCell ⟨gs,1,none⟩ (.int .i64 (i5:Nat)))from Z6.setCell Pa _));have TQ:=Z' (rj U7.out Pp.out 1 (.int .i64 (i5:Nat)));clear c0 c1 f0 f1 lt X9 QX XD U7;generalize V0.setCell ⟨gs,1,none⟩ (.int .i64 (i5:Nat))=V at*;have Qb:j<=1024:=by omega
   have YS:w.heap.size<=V.heap.size:=TF.out.size;obtain⟨c0,c1,f0,f1,lt⟩:=Tq.out.box
   go_wp2_with (at_builtin;refine wU rf rfl _ _ rfl w.heap.size _ j _ rfl TQ.out _ 1 _ _ rfl (by simp) rfl rfl (by omega) (by unfold maxLen;omega) YS ?_;intro v9 w9 Z0 ZA ZK;have ZW:w9.ownsRow w.heap.size 174 2 v9 (j+1) ((lj++[(⟨7,(i5:Nat)⟩:KS)]).flatMap KS.cells):=(by rw[List.flatMap_append];exact Z0);obtain⟨a9,c9,rfl,-,-⟩:=Ss.ofOwn KS.cells_length (by decide) ZW;have X3:=Z' ZW;have Rg:=Z' (Vs.out.app TQ.out ZA (by decide) (by decide) VB);have WT:=Z' (TF.out.thenB ZK);clear Z0 ZW ZA ZK c0 c1 f0 f1 lt)
   go_roundg (n-(j+1))
   case measure=>omega
   case rel=>exact⟨j+1,_,_,by omega,rfl,rfl,by go_num,Z' (by rw[Ze.out,ZS.out];exact Rg.out),WT,Z' (by rw[Ze.out,ZS.out];exact X3.out)⟩
  have ZS:=Z' (show RS=((sj.cls sv false).1,⟨7,((sj.cls sv false).2:Nat)⟩) by
   rw[Vn.out];unfold LW.slot;rw[if_neg h84,if_neg XK,if_neg Ye,if_neg h78,if_pos (Q5.out.symm),B4.out])
  have HC:=Z' (fun(h:sv.length<=65536)=>sG W B g sj sv false ZJ.out h (by omega) (Nat.le_trans Xj.out Za.out.size));have Ef:sv.length<=65536:=by rw[<-B4.out];exact Nat.le_trans (gR t) HT.out
  have Q':(sj.cls sv false).1.l.length<=sj.l.length+4:=tE _ _ _;generalize sj.cls sv false=C5 at*;obtain⟨s5,i5⟩:=C5;dsimp only at Q' HC ZS;have JB:(t==[84])=false:=by simpa using h84
  have K0:(t==[73])=false:=by simpa using XK
  have Qj:(t==[74])=false:=by simpa using Ye
  have JP:(t==[78])=false:=by simpa using h78
  clear h84 XK Ye h78
  go_wp2_with fail
  refine(Xc.out W).mono ?_;rintro e W0 ⟨rfl,Vr⟩;replace Vr:=Vr.symm;subst Vr
  go_wp2_with fail
  refine(HC.out Ef).mono ?_;rintro e V0 ⟨rfl,X',X5⟩;have X9:=Z' (VP.out.keepL X5 (by decide) (by decide));have QX:=Z' X';have XD:=Z' (Za.out.trans X5);have U7:=Z' (yR.own Xk.out X5 (by decide) (by decide));clear X' X5 VP ZJ Za Xk HC;obtain⟨c0,c1,f0,f1,lt⟩:=X9.out.box
  go_upto_region 19 with fail
  have Tq:=Z9 (wW (V0.setCell ⟨gs,1,none⟩ (.int .i64 (i5:Nat))) gs (.int .i64 7) (.int .i64 (i5:Nat)) 174) X9.out.set1;have Vs:=Z' (QX.out.setO X9.out (by decide) (by decide) RX 1 (.int .i64 (i5:Nat)));have TF:=Z' (XD.out.thenB (show Below w.heap.size V0 (V0.setCell ⟨gs,1,none⟩ (.int .i64 (i5:Nat)))from Z6.setCell Pa _));have TQ:=Z' (rj U7.out Pp.out 1 (.int .i64 (i5:Nat)));clear c0 c1 f0 f1 lt X9 QX XD U7;generalize V0.setCell ⟨gs,1,none⟩ (.int .i64 (i5:Nat))=V at*;have Qb:j<=1024:=by omega
  have YS:w.heap.size<=V.heap.size:=TF.out.size;obtain⟨c0,c1,f0,f1,lt⟩:=Tq.out.box
  go_wp2_with (at_builtin;refine wU rf rfl _ _ rfl w.heap.size _ j _ rfl TQ.out _ 1 _ _ rfl (by simp) rfl rfl (by omega) (by unfold maxLen;omega) YS ?_;intro v9 w9 Z0 ZA ZK;have ZW:w9.ownsRow w.heap.size 174 2 v9 (j+1) ((lj++[(⟨7,(i5:Nat)⟩:KS)]).flatMap KS.cells):=(by rw[List.flatMap_append];exact Z0);obtain⟨a9,c9,rfl,-,-⟩:=Ss.ofOwn KS.cells_length (by decide) ZW;have X3:=Z' ZW;have Rg:=Z' (Vs.out.app TQ.out ZA (by decide) (by decide) VB);have WT:=Z' (TF.out.thenB ZK);clear Z0 ZW ZA ZK c0 c1 f0 f1 lt)
  go_roundg (n-(j+1))
  case measure=>omega
  exact⟨j+1,_,_,by omega,rfl,rfl,by go_num,Z' (by rw[Ze.out,ZS.out];exact Rg.out),WT,Z' (by rw[Ze.out,ZS.out];exact X3.out)⟩
 obtain rfl:j=n:=by omega
 have ZV:l.take j=l:=List.take_of_length_le (by rw[Zd.out];exact Nat.le_refl _);rw[ZV]at HS HO;clear ZX
 go_wp2_with fail
 go_ret;exact⟨_,_,rfl,HO.out,HS.out,HK.out⟩
end
end Go.Proofs.YtclpkipaehpkdaaGreatDoor
