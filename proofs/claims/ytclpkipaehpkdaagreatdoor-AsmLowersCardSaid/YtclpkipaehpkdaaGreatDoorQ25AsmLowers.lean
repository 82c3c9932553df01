/- asm -/
import Derived.Test.YtclpkipaehpkdaaGreatDoorQ24AsmLowers
import Derived.Test.YtclpkipaehpkdaaGreatDoorQ18AsmLowers
import Derived.LaidHandle
import Derived.WideShapes
import Derived.ChangeArms
set_option linter.unusedVariables false
set_option linter.unusedSimpArgs false
set_option maxRecDepth 100000
set_option maxHeartbeats 64000000
namespace Go.Proofs.YtclpkipaehpkdaaGreatDoor
section
open Go.ChangeShapes Go.WideShapes Go.ChangeAt Go.RowKit
theorem B9i:Tryz.prog.underlying 85=some (.struct (Tryz.prog.fieldsOf 85)):=by kernel_rfl
theorem C4k:Tryz.prog.stoodInHeld 85=false:=by kernel_rfl
theorem C0c:Tryz.prog.eqGuardType Tryz.prog.depth 85=false:=by kernel_rfl
theorem C5c:(Tryz.prog.fieldsOf 85).toList.map (fun f=>(f.name,f.type,f.offset))=[("From",3,0),("To",3,1),("At",3,2),("Class",9,3)]:=by kernel_rfl
theorem C1k(w:World)(d:Nat)(x0:Int)(x1:Int)(x2:Int)(x3:List UInt8):(Op.equalIn (d+1+1) 85 (.agg #[.int .i64 x0,.int .i64 x1,.int .i64 x2,.string ⟨x3.toArray⟩]) (.agg #[.int .i64 x0,.int .i64 x1,.int .i64 x2,.string ⟨x3.toArray⟩])).run Tryz.prog w= .ok true w:=by
 rw[run_equalIn_struct w (d+1) _ _ _ B9i C4k];have hl:=C5c
 match hf:(Tryz.prog.fieldsOf 85).toList,hl with
 |[f0,f1,f2,f3],hl=>
  simp only[List.map_cons,List.map_nil,List.cons.injEq,Prod.mk.injEq,and_true]at hl;obtain⟨⟨n0,t0,o0⟩,⟨n1,t1,o1⟩,⟨n2,t2,o2⟩,⟨n3,t3,o3⟩⟩:=hl
  simp only[Op.eqFields,n0,n1,n2,n3,t0,t1,t2,t3,o0,o1,o2,o3]
  have i0:∀(i:Nat) (cs:Array Value) (w:World) (h:i<cs.size),(part 3 cs i).run Tryz.prog w= .ok cs[i] w:=fun i cs w h=>A4h Tryz.underlying3 rfl w cs i _ (Array.getElem?_eq_getElem h)
  have i1:∀(i:Nat) (cs:Array Value) (w:World) (h:i<cs.size),(part 9 cs i).run Tryz.prog w= .ok cs[i] w:=fun i cs w h=>A4h Tryz.underlying9 rfl w cs i _ (Array.getElem?_eq_getElem h)
  have i2:∀(i:Nat) (cs:Array Value) (w:World) (h:i<cs.size),(part 4 cs i).run Tryz.prog w= .ok cs[i] w:=fun i cs w h=>A4h Tryz.underlying4 rfl w cs i _ (Array.getElem?_eq_getElem h)
  simp[i0,i1,i2,run_equalIn_int _ _ _ _ _ _ _ Tryz.underlying3,run_equalIn_string _ _ _ _ _ Tryz.underlying9,run_equalIn_bool _ _ _ _ _ Tryz.underlying4]
 |[],hl|[_],hl|[_,_],hl|[_,_,_],hl|_::_::_::_::_::_,hl=>simp at hl
theorem C8x(w:World)(x0:Int)(x1:Int)(x2:Int)(x3:List UInt8)(y1 y2:Operand):((eqGuard .neq 85 y1 y2 (.agg #[.int .i64 x0,.int .i64 x1,.int .i64 x2,.string ⟨x3.toArray⟩]) (.agg #[.int .i64 x0,.int .i64 x1,.int .i64 x2,.string ⟨x3.toArray⟩])).run Tryz.prog w).andThen (fun _ w'=>(binOp .neq 85 (.agg #[.int .i64 x0,.int .i64 x1,.int .i64 x2,.string ⟨x3.toArray⟩]) (.agg #[.int .i64 x0,.int .i64 x1,.int .i64 x2,.string ⟨x3.toArray⟩])).run Tryz.prog w')= .ok (.bool false) w:=by
 have h:=C1k w 9998 x0 x1 x2 x3;rw[run_eqGuard_agg w _ _ _ _ _ _ C0c,Result.andThen_ok,run_neq_struct,h,Result.andThen_ok];rfl
theorem B6w:Tryz.prog.underlying 52=some (.struct (Tryz.prog.fieldsOf 52)):=by kernel_rfl
theorem B9w:Tryz.prog.stoodInHeld 52=false:=by kernel_rfl
theorem B9a:Tryz.prog.eqGuardType Tryz.prog.depth 52=false:=by kernel_rfl
theorem C0t:(Tryz.prog.fieldsOf 52).toList.map (fun f=>(f.name,f.type,f.offset))=[("Static",4,0),("Name",9,1),("Desc",9,2)]:=by kernel_rfl
theorem B9n(w:World)(d:Nat)(x0:Bool)(x1:List UInt8)(x2:List UInt8):(Op.equalIn (d+1+1) 52 (.agg #[.bool x0,.string ⟨x1.toArray⟩,.string ⟨x2.toArray⟩]) (.agg #[.bool x0,.string ⟨x1.toArray⟩,.string ⟨x2.toArray⟩])).run Tryz.prog w= .ok true w:=by
 rw[run_equalIn_struct w (d+1) _ _ _ B6w B9w];have hl:=C0t
 match hf:(Tryz.prog.fieldsOf 52).toList,hl with
 |[f0,f1,f2],hl=>
  simp only[List.map_cons,List.map_nil,List.cons.injEq,Prod.mk.injEq,and_true]at hl;obtain⟨⟨n0,t0,o0⟩,⟨n1,t1,o1⟩,⟨n2,t2,o2⟩⟩:=hl;simp only[Op.eqFields,n0,n1,n2,t0,t1,t2,o0,o1,o2]
  have i0:∀(i:Nat) (cs:Array Value) (w:World) (h:i<cs.size),(part 3 cs i).run Tryz.prog w= .ok cs[i] w:=fun i cs w h=>A4h Tryz.underlying3 rfl w cs i _ (Array.getElem?_eq_getElem h)
  have i1:∀(i:Nat) (cs:Array Value) (w:World) (h:i<cs.size),(part 9 cs i).run Tryz.prog w= .ok cs[i] w:=fun i cs w h=>A4h Tryz.underlying9 rfl w cs i _ (Array.getElem?_eq_getElem h)
  have i2:∀(i:Nat) (cs:Array Value) (w:World) (h:i<cs.size),(part 4 cs i).run Tryz.prog w= .ok cs[i] w:=fun i cs w h=>A4h Tryz.underlying4 rfl w cs i _ (Array.getElem?_eq_getElem h)
  simp[i0,i1,i2,run_equalIn_int _ _ _ _ _ _ _ Tryz.underlying3,run_equalIn_string _ _ _ _ _ Tryz.underlying9,run_equalIn_bool _ _ _ _ _ Tryz.underlying4]
 |[],hl|[_],hl|[_,_],hl|_::_::_::_::_,hl=>simp at hl
theorem C3f(w:World)(x0:Bool)(x1:List UInt8)(x2:List UInt8)(y1 y2:Operand):((eqGuard .neq 52 y1 y2 (.agg #[.bool x0,.string ⟨x1.toArray⟩,.string ⟨x2.toArray⟩]) (.agg #[.bool x0,.string ⟨x1.toArray⟩,.string ⟨x2.toArray⟩])).run Tryz.prog w).andThen (fun _ w'=>(binOp .neq 52 (.agg #[.bool x0,.string ⟨x1.toArray⟩,.string ⟨x2.toArray⟩]) (.agg #[.bool x0,.string ⟨x1.toArray⟩,.string ⟨x2.toArray⟩])).run Tryz.prog w')= .ok (.bool false) w:=by
 have h:=B9n w 9998 x0 x1 x2;rw[run_eqGuard_agg w _ _ _ _ _ _ B9a,Result.andThen_ok,run_neq_struct,h,Result.andThen_ok];rfl
theorem D0n(w:World)(x:IN)(y1 y2:Operand):((eqGuard .neq A1v y1 y2 (.agg x.cells.toArray) (.agg x.cells.toArray)).run Tryz.prog w).andThen (fun _ w'=>(binOp .neq A1v (.agg x.cells.toArray) (.agg x.cells.toArray)).run Tryz.prog w')= .ok (.bool false) w:=by
 have h:=B2v w 9998 x x;rw[show B0y x x=true by simp[B0y]]at h;unfold IN.cells at*;rw[run_eqGuard_agg w _ _ _ _ _ _ B3i,Result.andThen_ok,run_neq_struct,h,Result.andThen_ok];rfl
theorem A9x(x:List UInt8):((⟨x.toArray⟩:ByteArray).toList !=(⟨x.toArray⟩:ByteArray).toList)=false:=by simp
theorem B2u(w:World)(a:Option Addr)(n cap:Nat)(b:Option Addr)(cb:Nat)(l:List (List UInt8))(hs:Sl A6r w a n l)(ht:Sl A6r w b n l)(hn:n<=1000000000):
  Calls Tryz.prog 70 #[.slice a n cap,.slice b n cb] w (A0m true w):=by
 have HS:=hzz hs;have HT:=hzz ht;clear hs ht;go_enter Tryz.func70,Tryz.ntmps70;have e1:((n:Int) !=(n:Int))=false:=by simp
 go_wp2_with fail
 go_loopg [13] n (fun gn i wr=>∃j:Nat,j<=n/\gn=n-j/\i= .int .i64 j/\Hid (Below w.heap.size w wr))
 case atStart=>exact⟨0,by omega,by omega,by go_num,hzz brz⟩
 obtain⟨j,hj,rfl,rfl,HB⟩:=hrel;by_cases hlt:j<n
 ·obtain⟨b1,off1,x,rfl,_,hv,p⟩:=Sl.getE (HS.out.below HB.out) j hlt;obtain⟨b2,off2,y,rfl,_,hv2,q⟩:=Sl.getE (HT.out.below HB.out) j hlt
  obtain rfl:x=y:=by rw[hv]at hv2;exact Option.some.inj hv2
  unfold A6r at p q;clear hv hv2;have hj1:(j:Int)<n:=by omega
  go_upto_region 6 with fail
  have hSw:EqW wr.drew wr.drew:=rfl;have l0:=fun u (h:EqW wr.drew u)=>A0t h p
  have m0:=fun u (h:EqW wr.drew u)=>A0t h q
  have ne2:=A9x x;clear p q
  refine A0g (EqW wr.drew) (.stir [(0,true),(1,true),(2,true),(3,true),(4,true),(5,true),(6,true),(7,true),(8,true)]) (by kernel_rfl) (by kernel_rfl) (fun c a d v w h=>by cases d<;>exact h) ?_
  refine A0k (EqW wr.drew) (fun y hy=>hy) rfl ?_
  iterate 9
   refine A0h fun K hK=>tkX ?_
   go_simp
   try go_bits
   refine hK _ ?_;clear hK K
  refine A0n (fun u hu=> ?_);obtain rfl:u=wr.drew:=hu;clear l0 m0 hSw
  go_wp2_with fail
  go_roundg (n-(j+1))
  case measure=>omega
  exact⟨j+1,by omega,rfl,by go_num,hzz HB.out.drew⟩
 obtain rfl:n=j:=by omega
 go_wp2_with fail
 go_ret;exact⟨rfl,HB.out⟩
theorem B9g(w:World)(m m2:UM)(h:m.Rd w)(h2:m2.Rd w)(hp:m.p=m2.p)(hf:m.Fit)(hb4:∀p∈m.maps,p.ln<=1000000000/\p.sn<=1000000000):
  Calls Tryz.prog 30 #[.agg m.cells.toArray,.agg m2.cells.toArray] w (A0m true w):=by
 have HX:=hzz h;have HY:=hzz h2;have HB4:=hzz hb4;have l1:=h.code.1;have l2:=h.traps.1;have l3:=h.maps.1;have r1:=h2.code.1;have r2:=h2.traps.1;have r3:=h2.maps.1;have f1:=hf.code
 have f2:=hf.traps;have f3:=hf.maps;clear h h2 hb4 hf;obtain⟨st,nm,ds,sk,lo,ca,cn,cc,code,ta,tn,tc,traps,na,nn,nc,maps⟩:=m
 obtain⟨st2,nm2,ds2,sk2,lo2,ca2,cn2,cc2,code2,ta2,tn2,tc2,traps2,na2,nn2,nc2,maps2⟩:=m2;simp only[UM.p,UM.mk.injEq]at hp
 obtain⟨rfl,rfl,rfl,rfl,rfl,-,-,-,rfl,-,-,-,rfl,-,-,-,hpm⟩:=hp;dsimp only at*;have l4:=congrArg List.length hpm;rw[List.length_map,List.length_map]at l4;obtain rfl:cn=cn2:=by omega
 obtain rfl:tn=tn2:=by omega
 obtain rfl:nn=nn2:=by omega
 have hb1:cn<=1000000000:=by omega
 have hb2:tn<=1000000000:=by omega
 have hb3:nn<=1000000000:=by omega
 have HPM:=hzz hpm;clear l1 l2 l3 r1 r2 r3 l4 hpm f1 f2 f3;unfold UM.cells;dsimp only
 have hal1:Below w.heap.size w (w.alloc (.cells #[.bool st,.string ⟨nm.toArray⟩,.string ⟨ds.toArray⟩,.int .i64 sk,.int .i64 lo,.slice ca cn cc,.slice ta tn tc,.slice na nn nc] 59)):=A0f _ _
 have hal2:=A0f (w.alloc (.cells #[.bool st,.string ⟨nm.toArray⟩,.string ⟨ds.toArray⟩,.int .i64 sk,.int .i64 lo,.slice ca cn cc,.slice ta tn tc,.slice na nn nc] 59)) (.cells #[.bool st,.string ⟨nm.toArray⟩,.string ⟨ds.toArray⟩,.int .i64 sk,.int .i64 lo,.slice ca2 cn cc2,.slice ta2 tn tc2,.slice na2 nn nc2] 59)
 have HT1:=hzz (A0c (heap_alloc_last w (.cells #[.bool st,.string ⟨nm.toArray⟩,.string ⟨ds.toArray⟩,.int .i64 sk,.int .i64 lo,.slice ca cn cc,.slice ta tn tc,.slice na nn nc] 59)) hal2)
 have HT2:=heap_alloc_last (w.alloc (.cells #[.bool st,.string ⟨nm.toArray⟩,.string ⟨ds.toArray⟩,.int .i64 sk,.int .i64 lo,.slice ca cn cc,.slice ta tn tc,.slice na nn nc] 59)) (.cells #[.bool st,.string ⟨nm.toArray⟩,.string ⟨ds.toArray⟩,.int .i64 sk,.int .i64 lo,.slice ca2 cn cc2,.slice ta2 tn tc2,.slice na2 nn nc2] 59)
 rw[show(w.alloc (.cells #[.bool st,.string ⟨nm.toArray⟩,.string ⟨ds.toArray⟩,.int .i64 sk,.int .i64 lo,.slice ca cn cc,.slice ta tn tc,.slice na nn nc] 59)).heap.size=w.heap.size+1 by simp]at HT2
 replace HT2:=hzz HT2;have HB0:=hzz (hal1.trans (hal2.mono hal1.size));clear hal1 hal2;go_enter Tryz.func30,Tryz.ntmps30
 go_upto_region 1 with fail
 generalize(w.alloc (.cells #[.bool st,.string ⟨nm.toArray⟩,.string ⟨ds.toArray⟩,.int .i64 sk,.int .i64 lo,.slice ca cn cc,.slice ta tn tc,.slice na nn nc] 59)).alloc (.cells #[.bool st,.string ⟨nm.toArray⟩,.string ⟨ds.toArray⟩,.int .i64 sk,.int .i64 lo,.slice ca2 cn cc2,.slice ta2 tn tc2,.slice na2 nn nc2] 59)=W0 at*
 obtain⟨u1,hu1⟩:∃b,b=w.heap.size:=⟨_,rfl⟩;obtain⟨u2,hu2⟩:∃b,b=w.heap.size+1:=⟨_,rfl⟩;rw[<-hu1]at HT1;rw[<-hu2]at HT2;rw[<-hu2,<-hu1];clear hu1 hu2;have k0:=A0a HT1.out 0 rfl
 have k1:=A0a HT1.out 1 rfl;have k2:=A0a HT1.out 2 rfl;have k3:=A0a HT1.out 3 rfl;have k4:=A0a HT1.out 4 rfl;have k5:=A0a HT1.out 5 rfl;have k6:=A0a HT1.out 6 rfl
 have k7:=A0a HT1.out 7 rfl;have j0:=A0a HT2.out 0 rfl;have j1:=A0a HT2.out 1 rfl;have j2:=A0a HT2.out 2 rfl;have j3:=A0a HT2.out 3 rfl;have j4:=A0a HT2.out 4 rfl
 have j5:=A0a HT2.out 5 rfl;have j6:=A0a HT2.out 6 rfl;have j7:=A0a HT2.out 7 rfl;dsimp at k0 k1 k2 k3 k4 k5 k6 k7 j0 j1 j2 j3 j4 j5 j6 j7;have e0:(st !=st)=false:=by simp
 have e1':=A9x nm;have e2':=A9x ds;have e3:(sk !=sk)=false:=by simp
 have e4:(lo !=lo)=false:=by simp
 have e5:((cn:Int) !=(cn:Int))=false:=by simp
 have e6:((tn:Int) !=(tn:Int))=false:=by simp
 have e7:((nn:Int) !=(nn:Int))=false:=by simp
 go_cut [67] (fun r wx=>r= .bool false/\wx=W0)
 case first=>
  go_wp2_with fail
  go_meet;exact⟨by simp,rfl⟩
 obtain⟨rfl,rfl⟩:=hcut;clear e0 e3 e4 e5 e6 e7 e1' e2' k0 k1 k2 k3 k4 j0 j1 j2 j3 j4 j5 k7 j7 j6 k6
 go_wp2_with fail
 clear k5
 go_loopg [71] cn (fun gn i wr=>∃j:Nat,j<=cn/\gn=cn-j/\i= .int .i64 j/\Hid (Below wc.heap.size wc wr))
 case atStart=>exact⟨0,by omega,by omega,by go_num,hzz brz⟩
 obtain⟨j,hj,rfl,rfl,HB⟩:=hrel;have HWB:=btz HB0 HB.out;by_cases hlt:j<cn
 ·skip
  obtain⟨b1,off1,x,rfl,_,hv,p⟩:=Ss.getC (HX.out.code.below HWB.out) j hlt;obtain⟨b2,off2,y,rfl,_,hv2,q⟩:=Ss.getC (HY.out.code.below HWB.out) j hlt
  obtain rfl:x=y:=by rw[hv]at hv2;exact Option.some.inj hv2
  obtain⟨op,n,m,cl,nx,dx,tx⟩:=x;have p0:wr.cell? ⟨b1,off1+j*7,none⟩=some (.int .u8 (op:Nat)):=p 0 (by omega)
  have p1:wr.cell? ⟨b1,off1+j*7+1,none⟩=some (.int .i64 n):=p 1 (by omega);have p2:wr.cell? ⟨b1,off1+j*7+2,none⟩=some (.int .i64 m):=p 2 (by omega)
  have p3:wr.cell? ⟨b1,off1+j*7+3,none⟩=some (.string ⟨cl.toArray⟩):=p 3 (by omega);have p4:wr.cell? ⟨b1,off1+j*7+4,none⟩=some (.string ⟨nx.toArray⟩):=p 4 (by omega)
  have p5:wr.cell? ⟨b1,off1+j*7+5,none⟩=some (.string ⟨dx.toArray⟩):=p 5 (by omega);have p6:wr.cell? ⟨b1,off1+j*7+6,none⟩=some (.string ⟨tx.toArray⟩):=p 6 (by omega)
  have q0:wr.cell? ⟨b2,off2+j*7,none⟩=some (.int .u8 (op:Nat)):=q 0 (by omega);have q1:wr.cell? ⟨b2,off2+j*7+1,none⟩=some (.int .i64 n):=q 1 (by omega)
  have q2:wr.cell? ⟨b2,off2+j*7+2,none⟩=some (.int .i64 m):=q 2 (by omega);have q3:wr.cell? ⟨b2,off2+j*7+3,none⟩=some (.string ⟨cl.toArray⟩):=q 3 (by omega)
  have q4:wr.cell? ⟨b2,off2+j*7+4,none⟩=some (.string ⟨nx.toArray⟩):=q 4 (by omega);have q5:wr.cell? ⟨b2,off2+j*7+5,none⟩=some (.string ⟨dx.toArray⟩):=q 5 (by omega)
  have q6:wr.cell? ⟨b2,off2+j*7+6,none⟩=some (.string ⟨tx.toArray⟩):=q 6 (by omega);have k6:=A0a (A0c HT1.out HB.out) 5 rfl;have j6:=A0a (A0c HT2.out HB.out) 5 rfl
  dsimp at k6 j6;clear p q hv hv2;have hj1:(j:Int)<cn:=by omega
  go_upto_region 6 with fail
  have hSw:EqW wr.drew wr.drew:=rfl;have l0:=fun u (h:EqW wr.drew u)=>A0t h p0
  have m0:=fun u (h:EqW wr.drew u)=>A0t h q0
  have l1:=fun u (h:EqW wr.drew u)=>A0t h p1
  have m1:=fun u (h:EqW wr.drew u)=>A0t h q1
  have l2:=fun u (h:EqW wr.drew u)=>A0t h p2
  have m2:=fun u (h:EqW wr.drew u)=>A0t h q2
  have l3:=fun u (h:EqW wr.drew u)=>A0t h p3
  have m3:=fun u (h:EqW wr.drew u)=>A0t h q3
  have l4:=fun u (h:EqW wr.drew u)=>A0t h p4
  have m4:=fun u (h:EqW wr.drew u)=>A0t h q4
  have l5:=fun u (h:EqW wr.drew u)=>A0t h p5
  have m5:=fun u (h:EqW wr.drew u)=>A0t h q5
  have l6:=fun u (h:EqW wr.drew u)=>A0t h p6
  have m6:=fun u (h:EqW wr.drew u)=>A0t h q6
  have n0:=fun u (h:EqW wr.drew u)=>A0t h k6
  have n1:=fun u (h:EqW wr.drew u)=>A0t h j6
  have HNE:=hzz (fun u o1 o2=>by simpa[IN.cells]using D0n u ⟨op,n,m,cl,nx,dx,tx⟩ o1 o2);clear p0 q0 p1 q1 p2 q2 p3 q3 p4 q4 p5 q5 p6 q6 k6 j6
  refine A0g (EqW wr.drew) (.stir [(0,true),(1,true),(2,true),(3,true),(4,true),(5,true),(6,true),(7,true),(8,true),(9,true),(10,true)]) (by kernel_rfl) (by kernel_rfl) (fun c a d v w h=>by cases d<;>exact h) ?_
  refine A0k (EqW wr.drew) (fun y hy=>hy) rfl ?_
  iterate 10
   refine A0h fun K hK=>tkX ?_
   go_simp
   try go_bits
   refine hK _ ?_;clear hK K
  refine A0h (fun K hK=> ?_);simp only[A2h,List.getElem?_toArray,List.getElem?_cons_succ,List.getElem?_cons_zero];rw[if_pos (by rfl)];refine⟨Value.bool false,fun w' hS'=> ?_,?_⟩
  ·exact A5b (by rfl) (HNE.out w' _ _)
  go_simp;refine hK _ ?_;clear hK K;refine A0n (fun u hu=> ?_);obtain rfl:u=wr.drew:=hu;clear l0 m0 l1 m1 l2 m2 l3 m3 l4 m4 l5 m5 l6 m6 n0 n1 HNE hSw
  go_wp2_with fail
  go_roundg (cn-(j+1))
  case measure=>omega
  exact⟨j+1,by omega,rfl,by go_num,hzz HB.out.drew⟩
 obtain rfl:cn=j:=by omega
 have HT1':=hzz (A0c HT1.out HB.out);have HT2':=hzz (A0c HT2.out HB.out);clear HB HB0 HT1 HT2;have k7:=A0a HT1'.out 6 rfl;dsimp at k7
 go_wp2_with fail
 clear k7;obtain⟨W8,hW8⟩:=exz (wr);subst hW8
 go_loopg [89] tn (fun gn i wr=>∃j:Nat,j<=tn/\gn=tn-j/\i= .int .i64 j/\Hid (Below W8.heap.size W8 wr))
 case atStart=>exact⟨0,by omega,by omega,by go_num,hzz brz⟩
 obtain⟨j,hj,rfl,rfl,HB⟩:=hrel;have HWC:=btz HWB HB.out;by_cases hlt:j<tn
 ·skip
  obtain⟨b1,off1,x,rfl,_,hv,p⟩:=Ss.getC (HX.out.traps.below HWC.out) j hlt;obtain⟨b2,off2,y,rfl,_,hv2,q⟩:=Ss.getC (HY.out.traps.below HWC.out) j hlt
  obtain rfl:x=y:=by rw[hv]at hv2;exact Option.some.inj hv2
  obtain⟨fr,tt,pl,cl⟩:=x;have p0:wr.cell? ⟨b1,off1+j*4,none⟩=some (.int .i64 fr):=p 0 (by omega);have p1:wr.cell? ⟨b1,off1+j*4+1,none⟩=some (.int .i64 tt):=p 1 (by omega)
  have p2:wr.cell? ⟨b1,off1+j*4+2,none⟩=some (.int .i64 pl):=p 2 (by omega);have p3:wr.cell? ⟨b1,off1+j*4+3,none⟩=some (.string ⟨cl.toArray⟩):=p 3 (by omega)
  have q0:wr.cell? ⟨b2,off2+j*4,none⟩=some (.int .i64 fr):=q 0 (by omega);have q1:wr.cell? ⟨b2,off2+j*4+1,none⟩=some (.int .i64 tt):=q 1 (by omega)
  have q2:wr.cell? ⟨b2,off2+j*4+2,none⟩=some (.int .i64 pl):=q 2 (by omega);have q3:wr.cell? ⟨b2,off2+j*4+3,none⟩=some (.string ⟨cl.toArray⟩):=q 3 (by omega)
  have k6:=A0a (A0c HT1'.out HB.out) 6 rfl;have j6:=A0a (A0c HT2'.out HB.out) 6 rfl;dsimp at k6 j6;clear p q hv hv2;have hj1:(j:Int)<tn:=by omega
  go_upto_region 12 with fail
  have hSw:EqW wr.drew wr.drew:=rfl;have l0:=fun u (h:EqW wr.drew u)=>A0t h p0
  have m0:=fun u (h:EqW wr.drew u)=>A0t h q0
  have l1:=fun u (h:EqW wr.drew u)=>A0t h p1
  have m1:=fun u (h:EqW wr.drew u)=>A0t h q1
  have l2:=fun u (h:EqW wr.drew u)=>A0t h p2
  have m2:=fun u (h:EqW wr.drew u)=>A0t h q2
  have l3:=fun u (h:EqW wr.drew u)=>A0t h p3
  have m3:=fun u (h:EqW wr.drew u)=>A0t h q3
  have n0:=fun u (h:EqW wr.drew u)=>A0t h k6
  have n1:=fun u (h:EqW wr.drew u)=>A0t h j6
  have HNE:=hzz (fun u o1 o2=>C8x u fr tt pl cl o1 o2);clear p0 q0 p1 q1 p2 q2 p3 q3 k6 j6
  refine A0g (EqW wr.drew) (.stir [(0,true),(1,true),(2,true),(3,true),(4,true),(5,true),(6,true),(7,true),(8,true),(9,true),(10,true)]) (by kernel_rfl) (by kernel_rfl) (fun c a d v w h=>by cases d<;>exact h) ?_
  refine A0k (EqW wr.drew) (fun y hy=>hy) rfl ?_
  iterate 10
   refine A0h fun K hK=>tkX ?_
   go_simp
   try go_bits
   refine hK _ ?_;clear hK K
  refine A0h (fun K hK=> ?_);simp only[A2h,List.getElem?_toArray,List.getElem?_cons_succ,List.getElem?_cons_zero];rw[if_pos (by rfl)];refine⟨Value.bool false,fun w' hS'=> ?_,?_⟩
  ·exact A5b (by rfl) (HNE.out w' _ _)
  go_simp;refine hK _ ?_;clear hK K;refine A0n (fun u hu=> ?_);obtain rfl:u=wr.drew:=hu;clear l0 m0 l1 m1 l2 m2 l3 m3 n0 n1 HNE hSw
  go_wp2_with fail
  go_roundg (tn-(j+1))
  case measure=>omega
  exact⟨j+1,by omega,rfl,by go_num,hzz HB.out.drew⟩
 obtain rfl:tn=j:=by omega
 have HT3:=hzz (A0c HT1'.out HB.out);have HT4:=hzz (A0c HT2'.out HB.out);clear HB HWB HT1' HT2';have k7:=A0a HT3.out 7 rfl;dsimp at k7
 go_wp2_with fail
 clear k7;obtain⟨W9,hW9⟩:=exz (wr);subst hW9
 go_loopg [107] nn (fun gn i wx=>∃j:Nat,j<=nn/\gn=nn-j/\i= .int .i64 j/\Hid (Below W9.heap.size W9 wx))
 case atStart=>exact⟨0,by omega,by omega,by go_num,hzz brz⟩
 obtain⟨j,hj,rfl,rfl,HB⟩:=hrel;have HWD:=btz HWC HB.out;by_cases hlt:j<nn
 ·obtain⟨b1,off1,x,rfl,_,hv,p⟩:=Ss.getC (HX.out.maps.below HWD.out) j hlt;obtain⟨b2,off2,y,rfl,_,hv2,q⟩:=Ss.getC (HY.out.maps.below HWD.out) j hlt;have hpp:=C6p HPM.out hv hv2
  have hxr:=HX.out.each x (List.mem_of_getElem? hv);have hyr:=HY.out.each y (List.mem_of_getElem? hv2);have hx4:=HB4.out x (List.mem_of_getElem? hv);have s1:=hxr.loc.1;have s2:=hxr.stk.1
  have s3:=hyr.loc.1;have s4:=hyr.stk.1;obtain⟨pl,la,ln,lc,loc,sa,sn,sc,stk⟩:=x;obtain⟨pl2,la2,ln2,lc2,loc2,sa2,sn2,sc2,stk2⟩:=y;simp only[UP.p,UP.mk.injEq]at hpp
  obtain⟨rfl,-,-,-,rfl,-,-,-,rfl⟩:=hpp;dsimp only at s1 s2 s3 s4 hx4;obtain rfl:ln=ln2:=by omega
  obtain rfl:sn=sn2:=by omega
  have HC1:=hzz (fun w' (hb:Below w.heap.size w w')=>B2u w' la ln lc la2 lc2 loc (hxr.loc.below hb) (hyr.loc.below hb) hx4.1)
  have HC2:=hzz (fun w' (hb:Below w.heap.size w w')=>B2u w' sa sn sc sa2 sc2 stk (hxr.stk.below hb) (hyr.stk.below hb) hx4.2)
  have p0:wr.cell? ⟨b1,off1+j*3,none⟩=some (.int .i64 pl):=p 0 (by omega);have p1:wr.cell? ⟨b1,off1+j*3+1,none⟩=some (.slice la ln lc):=p 1 (by omega)
  have p2:wr.cell? ⟨b1,off1+j*3+2,none⟩=some (.slice sa sn sc):=p 2 (by omega);have q0:wr.cell? ⟨b2,off2+j*3,none⟩=some (.int .i64 pl):=q 0 (by omega)
  have q1:wr.cell? ⟨b2,off2+j*3+1,none⟩=some (.slice la2 ln lc2):=q 1 (by omega);have q2:wr.cell? ⟨b2,off2+j*3+2,none⟩=some (.slice sa2 sn sc2):=q 2 (by omega)
  have k7:=A0a (A0c HT3.out HB.out) 7 rfl;have j7:=A0a (A0c HT4.out HB.out) 7 rfl;dsimp at k7 j7;clear p q hv hv2 s1 s2 s3 s4 hx4 hxr hyr;have hj1:(j:Int)<nn:=by omega
  have ep:(pl !=pl)=false:=by simp
  go_upto_region 18 with fail
  have hSw:Below wr.heap.size wr wr.drew:=brz.drew;have l0:=fun u (h:Below wr.heap.size wr u)=>A0e h p0
  have l1:=fun u (h:Below wr.heap.size wr u)=>A0e h p1
  have l2:=fun u (h:Below wr.heap.size wr u)=>A0e h p2
  have m0:=fun u (h:Below wr.heap.size wr u)=>A0e h q0
  have m1:=fun u (h:Below wr.heap.size wr u)=>A0e h q1
  have m2:=fun u (h:Below wr.heap.size wr u)=>A0e h q2
  have n0:=fun u (h:Below wr.heap.size wr u)=>A0e h k7
  have n1:=fun u (h:Below wr.heap.size wr u)=>A0e h j7
  have HD1:=hzz (fun u (h:Below wr.heap.size wr u)=>HC1.out u (HWD.out.trans (h.mono HWD.out.size)));have HD2:=hzz (fun u (h:Below wr.heap.size wr u)=>HC2.out u (HWD.out.trans (h.mono HWD.out.size)))
  clear p0 p1 p2 q0 q1 q2 k7 j7 HC1 HC2
  refine A0g (Below wr.heap.size wr) (.stir [(0,true),(1,true),(2,true),(3,true),(4,true),(5,true),(6,true),(7,true),(8,true),(9,true),(10,true),(11,true),(12,true),(13,true),(14,true),(15,true),(16,true),(17,true),(18,true),(19,true),(20,true),(21,true),(22,true),(23,true),(24,true),(25,true),(26,false),(27,true),(28,true),(29,true),(30,true),(31,true),(32,true),(33,true),(34,true),(35,true),(36,true),(37,true),(38,true),(39,true),(40,true),(41,true),(42,false),(43,true),(44,true)]) (by kernel_rfl) (by kernel_rfl) (fun c a d v w h=>by cases d<;>exact h) ?_
  refine A0k (Below wr.heap.size wr) (fun y hy=>hy) hSw ?_
  iterate 26
   refine A0h fun K hK=>tkX ?_
   go_simp
   try go_bits
   refine hK _ ?_;clear hK K
  refine A0h (fun K hK=> ?_);simp only[A2h,List.getElem?_toArray,List.getElem?_cons_succ,List.getElem?_cons_zero];rw[if_pos (by rfl)];apply Exists.intro;refine⟨fun w' hS'=> ?_,?_⟩
  ·go_simp;exact A4r.call (Calls.mono ((HD1.out w' hS')) fun e w'' h=>⟨h.1,(fun hb''=>hS'.trans (hb''.mono hS'.size)) h.2⟩)
  go_simp;refine hK _ ?_;clear hK K
  iterate 15
   refine A0h fun K hK=>tkX ?_
   go_simp
   try go_bits
   refine hK _ ?_;clear hK K
  refine A0h (fun K hK=> ?_);simp only[A2h,List.getElem?_toArray,List.getElem?_cons_succ,List.getElem?_cons_zero];rw[if_pos (by rfl)];apply Exists.intro;refine⟨fun w' hS'=> ?_,?_⟩
  ·go_simp;exact A4r.call (Calls.mono ((HD2.out w' hS')) fun e w'' h=>⟨h.1,(fun hb''=>hS'.trans (hb''.mono hS'.size)) h.2⟩)
  go_simp;refine hK _ ?_;clear hK K
  iterate 2
   refine A0h fun K hK=>tkX ?_
   go_simp
   try go_bits
   refine hK _ ?_;clear hK K
  refine A0n (fun u hu=> ?_);clear l0 l1 l2 m0 m1 m2 n0 n1 HD1 HD2 hSw
  go_wp2_with fail
  go_roundg (nn-(j+1))
  case measure=>omega
  exact⟨j+1,by omega,rfl,by go_num,btz HB hu⟩
 obtain rfl:nn=j:=by omega
 go_wp2_with fail
 go_ret;exact⟨rfl,HWD.out⟩
theorem UM.Fit.rows{m:UM}{w:World}(hf:m.Fit)(hr:m.Rd w):∀p∈m.maps,p.ln<=1000000000/\p.sn<=1000000000:=by
 intro p hp;have h1:=(hr.each p hp).loc.1;have h2:=(hr.each p hp).stk.1;have h3:=(hf.mp p hp).loc;have h4:=(hf.mp p hp).stk;omega
theorem B6b(w:World)(x y:UU)(hx:x.Rd w)(hy:y.Rd w)(hp:x.p=y.p)(hb:x.Fit):
  Calls Tryz.prog 12 #[.agg x.cells.toArray,.agg y.cells.toArray] w (A0m true w):=by
 have HX:=hzz hx;have HY:=hzz hy;have hfn:=hb.fields;have hmn:=hb.methods;have HBE:=hzz hb.mt;have l2:=hx.fields.1;have l3:=hx.methods.1;have r2:=hy.fields.1;have r3:=hy.methods.1
 clear hx hy hb;obtain⟨nm,su,fa,fn,fc,fields,ma,mn,mc,methods⟩:=x;obtain⟨nm2,su2,fa2,fn2,fc2,fields2,ma2,mn2,mc2,methods2⟩:=y;simp only[UU.p,UU.mk.injEq]at hp
 obtain⟨rfl,rfl,-,-,-,rfl,-,-,-,hpm⟩:=hp;dsimp only at*;have l4:=congrArg List.length hpm;rw[List.length_map,List.length_map]at l4;obtain rfl:fn=fn2:=by omega
 obtain rfl:mn=mn2:=by omega
 have hfn':fn<=1024:=by omega
 have hmn':mn<=1024:=by omega
 have HPM:=hzz hpm;unfold UU.cells;dsimp only;clear l2 l3 r2 r3 l4 hpm hfn hmn
 have hal1:Below w.heap.size w (w.alloc (.cells #[.string ⟨nm.toArray⟩,.string ⟨su.toArray⟩,.slice fa fn fc,.slice ma mn mc] 32)):=A0f _ _
 have hal2:=A0f (w.alloc (.cells #[.string ⟨nm.toArray⟩,.string ⟨su.toArray⟩,.slice fa fn fc,.slice ma mn mc] 32)) (.cells #[.string ⟨nm.toArray⟩,.string ⟨su.toArray⟩,.slice fa2 fn fc2,.slice ma2 mn mc2] 32)
 have HT1:=hzz (A0c (heap_alloc_last w (.cells #[.string ⟨nm.toArray⟩,.string ⟨su.toArray⟩,.slice fa fn fc,.slice ma mn mc] 32)) hal2)
 have HT2:=heap_alloc_last (w.alloc (.cells #[.string ⟨nm.toArray⟩,.string ⟨su.toArray⟩,.slice fa fn fc,.slice ma mn mc] 32)) (.cells #[.string ⟨nm.toArray⟩,.string ⟨su.toArray⟩,.slice fa2 fn fc2,.slice ma2 mn mc2] 32)
 rw[show(w.alloc (.cells #[.string ⟨nm.toArray⟩,.string ⟨su.toArray⟩,.slice fa fn fc,.slice ma mn mc] 32)).heap.size=w.heap.size+1 by simp]at HT2;replace HT2:=hzz HT2
 have HB0:=hzz (hal1.trans (hal2.mono hal1.size));clear hal1 hal2;go_enter Tryz.func12,Tryz.ntmps12
 go_upto_region 1 with fail
 generalize(w.alloc (.cells #[.string ⟨nm.toArray⟩,.string ⟨su.toArray⟩,.slice fa fn fc,.slice ma mn mc] 32)).alloc (.cells #[.string ⟨nm.toArray⟩,.string ⟨su.toArray⟩,.slice fa2 fn fc2,.slice ma2 mn mc2] 32)=W0 at*
 obtain⟨u1,hu1⟩:∃b,b=w.heap.size:=⟨_,rfl⟩;obtain⟨u2,hu2⟩:∃b,b=w.heap.size+1:=⟨_,rfl⟩;rw[<-hu1]at HT1;rw[<-hu2]at HT2;rw[<-hu2,<-hu1];clear hu1 hu2
 go_cut [36] (fun r wx=>r= .bool false/\wx=W0)
 case first=>
  have k0:=A0a HT1.out 0 rfl;have j0:=A0a HT2.out 0 rfl;have k1:=A0a HT1.out 1 rfl;have j1:=A0a HT2.out 1 rfl;have k2:=A0a HT1.out 2 rfl;have j2:=A0a HT2.out 2 rfl
  have k3:=A0a HT1.out 3 rfl;have j3:=A0a HT2.out 3 rfl;dsimp at k0 j0 k1 j1 k2 j2 k3 j3;have e1:=A9x nm;have e2:=A9x su;have e3:((fn:Int) !=(fn:Int))=false:=by simp
  have e4:((mn:Int) !=(mn:Int))=false:=by simp
  go_wp2_with fail
  go_meet;exact⟨by simp,rfl⟩
 obtain⟨rfl,rfl⟩:=hcut;have k2:=A0a HT1.out 2 rfl;dsimp at k2
 go_wp2_with fail
 clear k2
 go_loopg [40] fn (fun gn i wr=>∃j:Nat,j<=fn/\gn=fn-j/\i= .int .i64 j/\Hid (Below wc.heap.size wc wr))
 case atStart=>exact⟨0,by omega,by omega,by go_num,hzz brz⟩
 obtain⟨j,hj,rfl,rfl,HB⟩:=hrel;have HWB:=btz HB0 HB.out;by_cases hlt:j<fn
 ·skip
  obtain⟨b1,off1,x,rfl,_,hv,p⟩:=Ss.getC (HX.out.fields.below HWB.out) j hlt;obtain⟨b2,off2,y,rfl,_,hv2,q⟩:=Ss.getC (HY.out.fields.below HWB.out) j hlt
  obtain rfl:x=y:=by rw[hv]at hv2;exact Option.some.inj hv2
  obtain⟨fl,nx,dx⟩:=x;have p0:wr.cell? ⟨b1,off1+j*3,none⟩=some (.bool fl):=p 0 (by omega);have p1:wr.cell? ⟨b1,off1+j*3+1,none⟩=some (.string ⟨nx.toArray⟩):=p 1 (by omega)
  have p2:wr.cell? ⟨b1,off1+j*3+2,none⟩=some (.string ⟨dx.toArray⟩):=p 2 (by omega);have q0:wr.cell? ⟨b2,off2+j*3,none⟩=some (.bool fl):=q 0 (by omega)
  have q1:wr.cell? ⟨b2,off2+j*3+1,none⟩=some (.string ⟨nx.toArray⟩):=q 1 (by omega);have q2:wr.cell? ⟨b2,off2+j*3+2,none⟩=some (.string ⟨dx.toArray⟩):=q 2 (by omega)
  have k6:=A0a (A0c HT1.out HB.out) 2 rfl;have j6:=A0a (A0c HT2.out HB.out) 2 rfl;dsimp at k6 j6;clear p q hv hv2;have hj1:(j:Int)<fn:=by omega
  go_upto_region 6 with fail
  have hSw:EqW wr.drew wr.drew:=rfl;have l0:=fun u (h:EqW wr.drew u)=>A0t h p0
  have m0:=fun u (h:EqW wr.drew u)=>A0t h q0
  have l1:=fun u (h:EqW wr.drew u)=>A0t h p1
  have m1:=fun u (h:EqW wr.drew u)=>A0t h q1
  have l2:=fun u (h:EqW wr.drew u)=>A0t h p2
  have m2:=fun u (h:EqW wr.drew u)=>A0t h q2
  have n0:=fun u (h:EqW wr.drew u)=>A0t h k6
  have n1:=fun u (h:EqW wr.drew u)=>A0t h j6
  have HNE:=hzz (fun u o1 o2=>C3f u fl nx dx o1 o2);clear p0 q0 p1 q1 p2 q2 k6 j6
  refine A0g (EqW wr.drew) (.stir [(0,true),(1,true),(2,true),(3,true),(4,true),(5,true),(6,true),(7,true),(8,true),(9,true),(10,true)]) (by kernel_rfl) (by kernel_rfl) (fun c a d v w h=>by cases d<;>exact h) ?_
  refine A0k (EqW wr.drew) (fun y hy=>hy) rfl ?_
  iterate 10
   refine A0h fun K hK=>tkX ?_
   go_simp
   try go_bits
   refine hK _ ?_;clear hK K
  refine A0h (fun K hK=> ?_);simp only[A2h,List.getElem?_toArray,List.getElem?_cons_succ,List.getElem?_cons_zero];rw[if_pos (by rfl)];refine⟨Value.bool false,fun w' hS'=> ?_,?_⟩
  ·exact A5b (by rfl) (HNE.out w' _ _)
  go_simp;refine hK _ ?_;clear hK K;refine A0n (fun u hu=> ?_);obtain rfl:u=wr.drew:=hu;clear l0 m0 l1 m1 l2 m2 n0 n1 HNE hSw
  go_wp2_with fail
  go_roundg (fn-(j+1))
  case measure=>omega
  exact⟨j+1,by omega,rfl,by go_num,hzz HB.out.drew⟩
 obtain rfl:fn=j:=by omega
 have HT1':=hzz (A0c HT1.out HB.out);have HT2':=hzz (A0c HT2.out HB.out);clear HB HB0 HT1 HT2;have k7:=A0a HT1'.out 3 rfl;dsimp at k7
 go_wp2_with fail
 clear k7;obtain⟨W8,hW8⟩:=exz (wr);subst hW8
 go_loopg [58] mn (fun gn i wr=>∃j:Nat,j<=mn/\gn=mn-j/\i= .int .i64 j/\Hid (Below W8.heap.size W8 wr))
 case atStart=>exact⟨0,by omega,by omega,by go_num,hzz brz⟩
 obtain⟨j,hj,rfl,rfl,HB⟩:=hrel;have HWC:=btz HWB HB.out;by_cases hlt:j<mn
 ·obtain⟨b1,off1,x,rfl,_,hv,p⟩:=Ss.getC (HX.out.methods.below HWC.out) j hlt;obtain⟨b2,off2,y,rfl,_,hv2,q⟩:=Ss.getC (HY.out.methods.below HWC.out) j hlt;have hpp:=C6p HPM.out hv hv2
  have hxr:=HX.out.each x (List.mem_of_getElem? hv);have hyr:=HY.out.each y (List.mem_of_getElem? hv2);have hx4:=HBE.out x (List.mem_of_getElem? hv)
  have HCM:=hzz (fun w' (h:Below w.heap.size w w')=>B9g w' x y (hxr.below h) (hyr.below h) hpp hx4 (hx4.rows hxr));clear hpp hxr hyr hx4
  obtain⟨st,nx,dx,sk,lo,ca,cn,cc,code,ta,tn,tc,traps,na,nn,nc,maps⟩:=x;obtain⟨st2,nx2,dx2,sk2,lo2,ca2,cn2,cc2,code2,ta2,tn2,tc2,traps2,na2,nn2,nc2,maps2⟩:=y
  dsimp only[UM.cells]at HCM;have p0:wr.cell? ⟨b1,off1+j*8,none⟩=some (.bool st):=p 0 (by omega);have p1:wr.cell? ⟨b1,off1+j*8+1,none⟩=some (.string ⟨nx.toArray⟩):=p 1 (by omega)
  have p2:wr.cell? ⟨b1,off1+j*8+2,none⟩=some (.string ⟨dx.toArray⟩):=p 2 (by omega);have p3:wr.cell? ⟨b1,off1+j*8+3,none⟩=some (.int .i64 sk):=p 3 (by omega)
  have p4:wr.cell? ⟨b1,off1+j*8+4,none⟩=some (.int .i64 lo):=p 4 (by omega);have p5:wr.cell? ⟨b1,off1+j*8+5,none⟩=some (.slice ca cn cc):=p 5 (by omega)
  have p6:wr.cell? ⟨b1,off1+j*8+6,none⟩=some (.slice ta tn tc):=p 6 (by omega);have p7:wr.cell? ⟨b1,off1+j*8+7,none⟩=some (.slice na nn nc):=p 7 (by omega)
  have q0:wr.cell? ⟨b2,off2+j*8,none⟩=some (.bool st2):=q 0 (by omega);have q1:wr.cell? ⟨b2,off2+j*8+1,none⟩=some (.string ⟨nx2.toArray⟩):=q 1 (by omega)
  have q2:wr.cell? ⟨b2,off2+j*8+2,none⟩=some (.string ⟨dx2.toArray⟩):=q 2 (by omega);have q3:wr.cell? ⟨b2,off2+j*8+3,none⟩=some (.int .i64 sk2):=q 3 (by omega)
  have q4:wr.cell? ⟨b2,off2+j*8+4,none⟩=some (.int .i64 lo2):=q 4 (by omega);have q5:wr.cell? ⟨b2,off2+j*8+5,none⟩=some (.slice ca2 cn2 cc2):=q 5 (by omega)
  have q6:wr.cell? ⟨b2,off2+j*8+6,none⟩=some (.slice ta2 tn2 tc2):=q 6 (by omega);have q7:wr.cell? ⟨b2,off2+j*8+7,none⟩=some (.slice na2 nn2 nc2):=q 7 (by omega)
  have k3:=A0a (A0c HT1'.out HB.out) 3 rfl;have j3:=A0a (A0c HT2'.out HB.out) 3 rfl;dsimp at k3 j3;clear p q hv hv2;have hj1:(j:Int)<mn:=by omega
  go_upto_region 12 with fail
  have hSw:Below wr.heap.size wr wr.drew:=brz.drew;have l0:=fun u (h:Below wr.heap.size wr u)=>A0e h p0
  have m0:=fun u (h:Below wr.heap.size wr u)=>A0e h q0
  have l1:=fun u (h:Below wr.heap.size wr u)=>A0e h p1
  have m1:=fun u (h:Below wr.heap.size wr u)=>A0e h q1
  have l2:=fun u (h:Below wr.heap.size wr u)=>A0e h p2
  have m2:=fun u (h:Below wr.heap.size wr u)=>A0e h q2
  have l3:=fun u (h:Below wr.heap.size wr u)=>A0e h p3
  have m3:=fun u (h:Below wr.heap.size wr u)=>A0e h q3
  have l4:=fun u (h:Below wr.heap.size wr u)=>A0e h p4
  have m4:=fun u (h:Below wr.heap.size wr u)=>A0e h q4
  have l5:=fun u (h:Below wr.heap.size wr u)=>A0e h p5
  have m5:=fun u (h:Below wr.heap.size wr u)=>A0e h q5
  have l6:=fun u (h:Below wr.heap.size wr u)=>A0e h p6
  have m6:=fun u (h:Below wr.heap.size wr u)=>A0e h q6
  have l7:=fun u (h:Below wr.heap.size wr u)=>A0e h p7
  have m7:=fun u (h:Below wr.heap.size wr u)=>A0e h q7
  have n0:=fun u (h:Below wr.heap.size wr u)=>A0e h k3
  have n1:=fun u (h:Below wr.heap.size wr u)=>A0e h j3
  have HD:=hzz (fun u (h:Below wr.heap.size wr u)=>HCM.out u (HWC.out.trans (h.mono HWC.out.size)));clear k3 j3 HCM p0 q0 p1 q1 p2 q2 p3 q3 p4 q4 p5 q5 p6 q6 p7 q7
  refine A0g (Below wr.heap.size wr) (.stir [(0,true),(1,true),(2,true),(3,true),(4,true),(5,true),(6,true),(7,true),(8,true),(9,true),(10,false),(11,true)]) (by kernel_rfl) (by kernel_rfl) (fun c a d v w h=>by cases d<;>exact h) ?_
  refine A0k (Below wr.heap.size wr) (fun y hy=>hy) hSw ?_
  iterate 10
   refine A0h fun K hK=>tkX ?_
   go_simp
   try go_bits
   refine hK _ ?_;clear hK K
  refine A0h (fun K hK=> ?_);simp only[A2h,List.getElem?_toArray,List.getElem?_cons_succ,List.getElem?_cons_zero];rw[if_pos (by rfl)];apply Exists.intro;refine⟨fun w' hS'=> ?_,?_⟩
  ·go_simp;exact A4r.call (Calls.mono ((HD.out w' hS')) fun e w'' h=>⟨h.1,(fun hb''=>hS'.trans (hb''.mono hS'.size)) h.2⟩)
  go_simp;refine hK _ ?_;clear hK K
  iterate 1
   refine A0h fun K hK=>tkX ?_
   go_simp
   try go_bits
   refine hK _ ?_;clear hK K
  refine A0n (fun u hu=> ?_);clear HD hSw n0 n1 l0 m0 l1 m1 l2 m2 l3 m3 l4 m4 l5 m5 l6 m6 l7 m7
  go_wp2_with fail
  go_roundg (mn-(j+1))
  case measure=>omega
  exact⟨j+1,by omega,rfl,by go_num,btz HB hu⟩
 obtain rfl:mn=j:=by omega
 go_wp2_with fail
 go_ret;exact⟨rfl,HWC.out⟩
def fxI:List IN:=[⟨167,1,0,[],[],[],[]⟩,⟨177,0,0,[],[],[],[]⟩]
def fxM(ca:Option Addr)(cc:Nat):UM:=⟨true,[103,111],[40,41,86],0,0,ca,2,cc,fxI,none,0,0,[],none,0,0,[]⟩
def fxF:UF:=⟨false,[120],[73]⟩
def fxU(fa ma ca:Option Addr)(fc mc cc:Nat):UU:=⟨[97,47,66],[],fa,1,fc,[fxF],ma,1,mc,[fxM ca cc]⟩
theorem E1q(fa ma ca:Option Addr)(fc mc cc:Nat):C2h (fxU fa ma ca fc mc cc)=0:=by kernel_rfl
theorem D9i(fa ma ca:Option Addr)(fc mc cc:Nat):(B1c (fxU fa ma ca fc mc cc)).2=(B1c (fxU none none none 0 0 0)).2:=by kernel_rfl
theorem E2s:C2h u0=8:=by kernel_rfl
def fxL:KF:=(B1c (fxU none none none 0 0 0)).2
def fxK:KM:=(fxL.methods.head?).getD ⟨0,0,0,0,0,none,0,0,[],none,0,0,[],none,0,0,[]⟩
theorem C5f:fxL.methods=[fxK]:=by kernel_rfl
theorem D5j:fxK.maps=[]:=by kernel_rfl
theorem E4h(pa fa ma ca ta na:Option Addr)(pn pc fn fc mn mc cn cc tn tc nn nc:Nat):B1n ⟨pa,pn,pc,fxL.pool,fxL.th,fxL.su,fa,fn,fc,fxL.fields,ma,mn,mc,[⟨fxK.fl,fxK.nm,fxK.ds,fxK.st,fxK.lo,ca,cn,cc,fxK.code,ta,tn,tc,fxK.traps,na,nn,nc,[]⟩]⟩=true:=by kernel_rfl
theorem E4d(pa fa ma ca ta na:Option Addr)(pn pc fn fc mn mc cn cc tn tc nn nc:Nat):B6u ⟨pa,pn,pc,fxL.pool,fxL.th,fxL.su,fa,fn,fc,fxL.fields,ma,mn,mc,[⟨fxK.fl,fxK.nm,fxK.ds,fxK.st,fxK.lo,ca,cn,cc,fxK.code,ta,tn,tc,fxK.traps,na,nn,nc,[]⟩]⟩=(fxU none none none 0 0 0).p:=by kernel_rfl
theorem E0q(x:KF)(h:x.lp=fxL):B1n x=true/\B6u x=(fxU none none none 0 0 0).p:=by
 obtain⟨pa,pn,pc,pool,th,su,fa,fn,fc,fields,ma,mn,mc,methods⟩:=x;unfold KF.lp at h;dsimp only at h;have h1:pool=fxL.pool:=congrArg KF.pool h;have h2:th=fxL.th:=congrArg KF.th h
 have h3:su=fxL.su:=congrArg KF.su h;have h4:fields=fxL.fields:=congrArg KF.fields h;have h5:methods.map KM.lp=[fxK]:=(congrArg KF.methods h).trans C5f;have hl:=congrArg List.length h5
 rw[List.length_map]at hl;obtain⟨m,rfl⟩:=List.length_eq_one_iff.1 hl;have h6:m.lp=fxK:=by simpa using h5
 obtain⟨fl,nm,ds,st,lo,ca,cn,cc,code,ta,tn,tc,traps,na,nn,nc,maps⟩:=m;unfold KM.lp at h6;dsimp only at h6;have e1:fl=fxK.fl:=congrArg KM.fl h6;have e2:nm=fxK.nm:=congrArg KM.nm h6
 have e3:ds=fxK.ds:=congrArg KM.ds h6;have e4:st=fxK.st:=congrArg KM.st h6;have e5:lo=fxK.lo:=congrArg KM.lo h6;have e6:code=fxK.code:=congrArg KM.code h6
 have e7:traps=fxK.traps:=congrArg KM.traps h6;have e8:maps.map KP.lp=[]:=(congrArg KM.maps h6).trans D5j;obtain rfl:maps=[]:=List.map_eq_nil_iff.1 e8;subst h1 h2 h3 h4 e1 e2 e3 e4 e5 e6 e7
 exact⟨E4h ..,E4d ..⟩
theorem D3n(fa ma ca:Option Addr)(fc mc cc:Nat):(fxU fa ma ca fc mc cc).Fit:=by
 refine⟨by simp[fxU],by simp[fxU],by simp[fxU],fun f hf=> ?_,by simp[fxU],fun m hm=> ?_⟩
 ·obtain rfl:f=fxF:=by simpa[fxU]using hf
  simp[fxF]
 obtain rfl:m=fxM ca cc:=by simpa[fxU]using hm
 refine⟨by simp[fxM],by simp[fxM],by simp[fxM,fxI],fun x hx=> ?_,by simp[fxM],fun t ht=>by simp[fxM]at ht,by simp[fxM],fun p hp=>by simp[fxM]at hp⟩
 have:x=⟨167,1,0,[],[],[],[]⟩\/x=⟨177,0,0,[],[],[],[]⟩:=by simpa[fxM,fxI]using hx
 rcases this with rfl|rfl
 ·exact⟨by decide,by constructor<;>decide,by constructor<;>decide,by simp,by simp,by simp,by simp⟩
 exact⟨by decide,by constructor<;>decide,by constructor<;>decide,by simp,by simp,by simp,by simp⟩
theorem E2v:u0.Fit:=⟨by simp[u0],by simp[u0],by simp[u0],fun f hf=>by simp[u0]at hf,by simp[u0],fun f hf=>by simp[u0]at hf⟩
theorem E3w(w:World):u0.Rd w:=⟨Ss.nil _ _,Ss.nil _ _,fun m hm=>by cases hm⟩
def zf:KF:=⟨none,0,0,[],0,0,none,0,0,[],none,0,0,[]⟩
theorem C0w(w:World):zf.Rd w:=⟨Ss.nil _ _,Ss.nil _ _,Ss.nil _ _,fun m hm=>by cases hm⟩
theorem D7q:zf.Fit:=⟨by decide,fun i hi=>by simp[zf]at hi,by decide,by decide,fun d hd=>by simp[zf]at hd,fun d hd=>by simp[zf]at hd⟩
theorem E4a:A2q zf=false:=by kernel_rfl
theorem B2f{f:KF}{w:World}(hr:f.Rd w)(hf:f.Fit)(i:Int):(kAt f.pool i).s.length<=65536:=by
 have hl:=hr.pool.1;by_cases h:0<=i/\i<f.pn
 ·obtain⟨k,rfl⟩:=Int.eq_ofNat_of_zero_le h.1;exact hf.ps k (by omega)
 unfold kAt;by_cases h2:i.toNat<f.pool.length
 ·by_cases h3:0<=i
  ·omega
  have h4:=hf.ps 0 (by omega);unfold kAt at h4;rw[show i.toNat=0 by omega];exact h4
 rw[List.getD_eq_getElem?_getD,List.getElem?_eq_none (by omega)];simp[kz]
theorem D1t(w:World)(hv:VW w):Calls Tryz.prog 8 #[] w (fun e w'=>e= .returned (.bool true)/\Below w.heap.size w w'):=by
 have hs1:(w.alloc (.cells #[.bool false,.string ⟨#[120]⟩,.string ⟨#[73]⟩] 52)).heap.size=w.heap.size+1:=by simp
 have hs2:((w.alloc (.cells #[.bool false,.string ⟨#[120]⟩,.string ⟨#[73]⟩] 52)).alloc (.cells #[.int .u8 167,.int .i64 1,.int .i64 0,.string ⟨#[]⟩,.string ⟨#[]⟩,.string ⟨#[]⟩,.string ⟨#[]⟩,.int .u8 177,.int .i64 0,.int .i64 0,.string ⟨#[]⟩,.string ⟨#[]⟩,.string ⟨#[]⟩,.string ⟨#[]⟩] A1v)).heap.size=w.heap.size+1+1:=by simp
 have hs3:(((w.alloc (.cells #[.bool false,.string ⟨#[120]⟩,.string ⟨#[73]⟩] 52)).alloc (.cells #[.int .u8 167,.int .i64 1,.int .i64 0,.string ⟨#[]⟩,.string ⟨#[]⟩,.string ⟨#[]⟩,.string ⟨#[]⟩,.int .u8 177,.int .i64 0,.int .i64 0,.string ⟨#[]⟩,.string ⟨#[]⟩,.string ⟨#[]⟩,.string ⟨#[]⟩] A1v)).alloc (.cells #[.bool true,.string ⟨#[103,111]⟩,.string ⟨#[40,41,86]⟩,.int .i64 0,.int .i64 0,.slice (some ⟨w.heap.size+1,0,none⟩) 2 2,.slice none 0 0,.slice none 0 0] A0w)).heap.size=w.heap.size+1+1+1:=by simp
 have b1:Below w.heap.size w (w.alloc (.cells #[.bool false,.string ⟨#[120]⟩,.string ⟨#[73]⟩] 52)):=A0f _ _
 have b2:=A0f (w.alloc (.cells #[.bool false,.string ⟨#[120]⟩,.string ⟨#[73]⟩] 52)) (.cells #[.int .u8 167,.int .i64 1,.int .i64 0,.string ⟨#[]⟩,.string ⟨#[]⟩,.string ⟨#[]⟩,.string ⟨#[]⟩,.int .u8 177,.int .i64 0,.int .i64 0,.string ⟨#[]⟩,.string ⟨#[]⟩,.string ⟨#[]⟩,.string ⟨#[]⟩] A1v)
 have b3:=A0f ((w.alloc (.cells #[.bool false,.string ⟨#[120]⟩,.string ⟨#[73]⟩] 52)).alloc (.cells #[.int .u8 167,.int .i64 1,.int .i64 0,.string ⟨#[]⟩,.string ⟨#[]⟩,.string ⟨#[]⟩,.string ⟨#[]⟩,.int .u8 177,.int .i64 0,.int .i64 0,.string ⟨#[]⟩,.string ⟨#[]⟩,.string ⟨#[]⟩,.string ⟨#[]⟩] A1v)) (.cells #[.bool true,.string ⟨#[103,111]⟩,.string ⟨#[40,41,86]⟩,.int .i64 0,.int .i64 0,.slice (some ⟨w.heap.size+1,0,none⟩) 2 2,.slice none 0 0,.slice none 0 0] A0w)
 have b4:=A0f (((w.alloc (.cells #[.bool false,.string ⟨#[120]⟩,.string ⟨#[73]⟩] 52)).alloc (.cells #[.int .u8 167,.int .i64 1,.int .i64 0,.string ⟨#[]⟩,.string ⟨#[]⟩,.string ⟨#[]⟩,.string ⟨#[]⟩,.int .u8 177,.int .i64 0,.int .i64 0,.string ⟨#[]⟩,.string ⟨#[]⟩,.string ⟨#[]⟩,.string ⟨#[]⟩] A1v)).alloc (.cells #[.bool true,.string ⟨#[103,111]⟩,.string ⟨#[40,41,86]⟩,.int .i64 0,.int .i64 0,.slice (some ⟨w.heap.size+1,0,none⟩) 2 2,.slice none 0 0,.slice none 0 0] A0w)) (.cells #[.string ⟨#[97,47,66]⟩,.string ⟨#[]⟩,.slice (some ⟨w.heap.size,0,none⟩) 1 1,.slice (some ⟨w.heap.size+1+1,0,none⟩) 1 1] A2k)
 have r1:=A0c (A0c (A0c (heap_alloc_last w (.cells #[.bool false,.string ⟨#[120]⟩,.string ⟨#[73]⟩] 52)) b2) b3) b4
 have r2:=A0c (A0c (heap_alloc_last (w.alloc (.cells #[.bool false,.string ⟨#[120]⟩,.string ⟨#[73]⟩] 52)) (.cells #[.int .u8 167,.int .i64 1,.int .i64 0,.string ⟨#[]⟩,.string ⟨#[]⟩,.string ⟨#[]⟩,.string ⟨#[]⟩,.int .u8 177,.int .i64 0,.int .i64 0,.string ⟨#[]⟩,.string ⟨#[]⟩,.string ⟨#[]⟩,.string ⟨#[]⟩] A1v)) b3) b4
 have r3:=A0c (heap_alloc_last ((w.alloc (.cells #[.bool false,.string ⟨#[120]⟩,.string ⟨#[73]⟩] 52)).alloc (.cells #[.int .u8 167,.int .i64 1,.int .i64 0,.string ⟨#[]⟩,.string ⟨#[]⟩,.string ⟨#[]⟩,.string ⟨#[]⟩,.int .u8 177,.int .i64 0,.int .i64 0,.string ⟨#[]⟩,.string ⟨#[]⟩,.string ⟨#[]⟩,.string ⟨#[]⟩] A1v)) (.cells #[.bool true,.string ⟨#[103,111]⟩,.string ⟨#[40,41,86]⟩,.int .i64 0,.int .i64 0,.slice (some ⟨w.heap.size+1,0,none⟩) 2 2,.slice none 0 0,.slice none 0 0] A0w)) b4
 have r4:=heap_alloc_last (((w.alloc (.cells #[.bool false,.string ⟨#[120]⟩,.string ⟨#[73]⟩] 52)).alloc (.cells #[.int .u8 167,.int .i64 1,.int .i64 0,.string ⟨#[]⟩,.string ⟨#[]⟩,.string ⟨#[]⟩,.string ⟨#[]⟩,.int .u8 177,.int .i64 0,.int .i64 0,.string ⟨#[]⟩,.string ⟨#[]⟩,.string ⟨#[]⟩,.string ⟨#[]⟩] A1v)).alloc (.cells #[.bool true,.string ⟨#[103,111]⟩,.string ⟨#[40,41,86]⟩,.int .i64 0,.int .i64 0,.slice (some ⟨w.heap.size+1,0,none⟩) 2 2,.slice none 0 0,.slice none 0 0] A0w)) (.cells #[.string ⟨#[97,47,66]⟩,.string ⟨#[]⟩,.slice (some ⟨w.heap.size,0,none⟩) 1 1,.slice (some ⟨w.heap.size+1+1,0,none⟩) 1 1] A2k)
 rw[hs1]at r2;rw[hs2]at r3;rw[hs3]at r4
 have hB0:Below w.heap.size w ((((w.alloc (.cells #[.bool false,.string ⟨#[120]⟩,.string ⟨#[73]⟩] 52)).alloc (.cells #[.int .u8 167,.int .i64 1,.int .i64 0,.string ⟨#[]⟩,.string ⟨#[]⟩,.string ⟨#[]⟩,.string ⟨#[]⟩,.int .u8 177,.int .i64 0,.int .i64 0,.string ⟨#[]⟩,.string ⟨#[]⟩,.string ⟨#[]⟩,.string ⟨#[]⟩] A1v)).alloc (.cells #[.bool true,.string ⟨#[103,111]⟩,.string ⟨#[40,41,86]⟩,.int .i64 0,.int .i64 0,.slice (some ⟨w.heap.size+1,0,none⟩) 2 2,.slice none 0 0,.slice none 0 0] A0w)).alloc (.cells #[.string ⟨#[97,47,66]⟩,.string ⟨#[]⟩,.slice (some ⟨w.heap.size,0,none⟩) 1 1,.slice (some ⟨w.heap.size+1+1,0,none⟩) 1 1] A2k)):=((((Below.refl w.heap.size w).alloc nlz _).alloc (by simp) _).alloc (by simp;omega) _).alloc (by simp;omega) _
 have hrd:(fxU (some ⟨w.heap.size,0,none⟩) (some ⟨w.heap.size+1+1,0,none⟩) (some ⟨w.heap.size+1,0,none⟩) 1 1 2).Rd ((((w.alloc (.cells #[.bool false,.string ⟨#[120]⟩,.string ⟨#[73]⟩] 52)).alloc (.cells #[.int .u8 167,.int .i64 1,.int .i64 0,.string ⟨#[]⟩,.string ⟨#[]⟩,.string ⟨#[]⟩,.string ⟨#[]⟩,.int .u8 177,.int .i64 0,.int .i64 0,.string ⟨#[]⟩,.string ⟨#[]⟩,.string ⟨#[]⟩,.string ⟨#[]⟩] A1v)).alloc (.cells #[.bool true,.string ⟨#[103,111]⟩,.string ⟨#[40,41,86]⟩,.int .i64 0,.int .i64 0,.slice (some ⟨w.heap.size+1,0,none⟩) 2 2,.slice none 0 0,.slice none 0 0] A0w)).alloc (.cells #[.string ⟨#[97,47,66]⟩,.string ⟨#[]⟩,.slice (some ⟨w.heap.size,0,none⟩) 1 1,.slice (some ⟨w.heap.size+1+1,0,none⟩) 1 1] A2k)):=by
  refine⟨Ss.lit UF.cells_length r1 rfl rfl,Ss.lit UM.cells_length r3 rfl rfl,fun m hm=> ?_⟩;obtain rfl:m=fxM (some ⟨w.heap.size+1,0,none⟩) 2:=by simpa[fxU]using hm
  exact⟨Ss.lit IN.cells_length r2 rfl rfl,Ss.nil _ _,Ss.nil _ _,fun p hp=>by simp[fxM]at hp⟩
 have HU:=hzz hrd;have HB0:=hzz hB0;have HG:=hzz r4;have HV:=hzz hv;clear hs1 hs2 hs3 b1 b2 b3 b4 r1 r2 r3 r4 hB0 hrd hv;go_enter Tryz.func8,Tryz.ntmps8
 go_upto_region 2 with fail
 generalize((((w.alloc (.cells #[.bool false,.string ⟨#[120]⟩,.string ⟨#[73]⟩] 52)).alloc (.cells #[.int .u8 167,.int .i64 1,.int .i64 0,.string ⟨#[]⟩,.string ⟨#[]⟩,.string ⟨#[]⟩,.string ⟨#[]⟩,.int .u8 177,.int .i64 0,.int .i64 0,.string ⟨#[]⟩,.string ⟨#[]⟩,.string ⟨#[]⟩,.string ⟨#[]⟩] A1v)).alloc (.cells #[.bool true,.string ⟨#[103,111]⟩,.string ⟨#[40,41,86]⟩,.int .i64 0,.int .i64 0,.slice (some ⟨w.heap.size+1,0,none⟩) 2 2,.slice none 0 0,.slice none 0 0] A0w)).alloc (.cells #[.string ⟨#[97,47,66]⟩,.string ⟨#[]⟩,.slice (some ⟨w.heap.size,0,none⟩) 1 1,.slice (some ⟨w.heap.size+1+1,0,none⟩) 1 1] A2k))=W0 at*
 have HLO:=hzz (B3j W0 (fxU (some ⟨w.heap.size,0,none⟩) (some ⟨w.heap.size+1+1,0,none⟩) (some ⟨w.heap.size+1,0,none⟩) 1 1 2) HU.out (D3n _ _ _ _ _ _) (HV.out.below HB0.out))
 unfold C6t at HLO;rw[E1q]at HLO
 have HLN:Hid (Calls Tryz.prog 14 #[.agg #[.string ⟨#[97,47,66]⟩,.string ⟨#[]⟩,.slice (some ⟨w.heap.size,0,none⟩) 1 1,.slice (some ⟨w.heap.size+1+1,0,none⟩) 1 1]] W0 (fun e w'=>∃x:KF,e= .returned (.tuple #[.agg x.cells.toArray,.int .i64 0])/\x.lp=fxL/\x.Rd w'/\x.Fit/\Below W0.heap.size W0 w')):=by
  refine hzz (HLO.out.mono ?_);rintro e w' ⟨x,h1,h2,-,h4⟩;obtain⟨h5,h6,h7⟩:=h2 rfl;exact⟨x,h1,h5.trans (D9i _ _ _ _ _ _),h6,h7,h4⟩
 clear HLO;have k0:W0.cell? ⟨w.heap.size+1+1+1,0,none⟩=some (.string ⟨#[97,47,66]⟩):=A0a HG.out 0 rfl
 have k1:W0.cell? ⟨w.heap.size+1+1+1,1,none⟩=some (.string ⟨#[]⟩):=A0a HG.out 1 rfl
 have k2:W0.cell? ⟨w.heap.size+1+1+1,2,none⟩=some (.slice (some ⟨w.heap.size,0,none⟩) 1 1):=A0a HG.out 2 rfl
 have k3:W0.cell? ⟨w.heap.size+1+1+1,3,none⟩=some (.slice (some ⟨w.heap.size+1+1,0,none⟩) 1 1):=A0a HG.out 3 rfl
 go_wp2_with fail
 clear k0 k1 k2 k3;refine HLN.out.mono ?_;clear HLN;rintro e w1 ⟨x,rfl,hxl,hxr,hxf,hb1⟩;have HB1:=btz HB0 hb1;have HG1:=hzz (A0c HG.out hb1);have HU1:=hzz (HU.out.below hb1);clear hb1 HB0 HG HU
 obtain⟨hlc,hlv⟩:=E0q x hxl;have HLC:=hzz hlc;have HLV:=hzz hlv;clear hxl hlc hlv;have hal:Below w1.heap.size w1 (w1.alloc (.cells x.cells.toArray 26)):=A0f _ _
 have hra:=heap_alloc_last w1 (.cells x.cells.toArray 26)
 have HLI:=hzz (B5d (w1.alloc (.cells x.cells.toArray 26)) x (hxr.below hal) hxf (HV.out.below (HB1.out.trans (hal.mono HB1.out.size))) (B2f hxr hxf));have HB2:=btz HB1 hal
 have HG2:=hzz (A0c HG1.out hal);have HU2:=hzz (HU1.out.below hal);have c0:(w1.alloc (.cells x.cells.toArray 26)).cell? ⟨w1.heap.size,0,none⟩=some (.slice x.pa x.pn x.pc):=A0a hra 0 rfl
 have c1:(w1.alloc (.cells x.cells.toArray 26)).cell? ⟨w1.heap.size,1,none⟩=some (.int .i64 x.th):=A0a hra 1 rfl
 have c2:(w1.alloc (.cells x.cells.toArray 26)).cell? ⟨w1.heap.size,2,none⟩=some (.int .i64 x.su):=A0a hra 2 rfl
 have c3:(w1.alloc (.cells x.cells.toArray 26)).cell? ⟨w1.heap.size,3,none⟩=some (.slice x.fa x.fn x.fc):=A0a hra 3 rfl
 have c4:(w1.alloc (.cells x.cells.toArray 26)).cell? ⟨w1.heap.size,4,none⟩=some (.slice x.ma x.mn x.mc):=A0a hra 4 rfl;clear hal hra hxr hxf HB1 HG1 HU1
 obtain⟨pa,pn,pc,pool,th,su,fa,fn,fc,fields,ma,mn,mc,methods⟩:=x;dsimp only[KF.cells]at*
 go_upto_region 3 with fail
 generalize w1.alloc _=W2 at*
 go_wp2_with fail
 clear c0 c1 c2 c3 c4;refine HLI.out.mono ?_;clear HLI;rintro e w2 ⟨v,er,rfl,h1,h2,-,-,ho,hb2⟩;obtain rfl:er=0:=h1.2 HLC.out;have HVP:=hzz ((h2 rfl).trans HLV.out)
 have hal:=A0f w2 (.cells v.cells.toArray A2k);have hbv:=hb2.trans (hal.mono hb2.size);have HB3:=btz HB2 hbv;have HG3:=hzz (A0c HG2.out hbv);have HU3:=hzz (HU2.out.below hbv)
 have HVR:=hzz (ho.rd.below hal);have HVG:=hzz (heap_alloc_last w2 (.cells v.cells.toArray A2k));obtain⟨g4,hg4⟩:∃g,g=w2.heap.size:=⟨_,rfl⟩;clear h1 h2 ho hb2 hal hbv HB2 HG2 HU2 HLC HLV
 obtain⟨nm2,su2,fa2,fn2,fc2,fields2,ma2,mn2,mc2,methods2⟩:=v;dsimp only[UU.cells]at*
 go_upto_region 4 with fail
 generalize w2.alloc _=W3 at*;rw[<-hg4]at HVG⊢;clear hg4;have HLZ:=hzz (B5d W3 zf (C0w _) D7q (HV.out.below HB3.out) (fun i=>B2f (C0w W3) D7q i));dsimp only[zf]at HLZ
 go_wp2_with fail
 refine HLZ.out.mono ?_;clear HLZ;rintro e w3 ⟨z,er,rfl,-,-,-,h8,-,hb3⟩;obtain rfl:er=8:=h8 E4a;have hal:=A0f w3 (.cells z.cells.toArray A2k);have hbv:=hb3.trans (hal.mono hb3.size)
 have HB4:=btz HB3 hbv;have HG4:=hzz (A0c HG3.out hbv);have HU4:=hzz (HU3.out.below hbv);have HVR4:=hzz (HVR.out.below hbv);have HVG4:=hzz (A0c HVG.out hbv)
 clear h8 hb3 hal hbv HB3 HG3 HU3 HVR HVG;obtain⟨nm3,su3,fa3,fn3,fc3,fields3,ma3,mn3,mc3,methods3⟩:=z;dsimp only[UU.cells]at*
 go_upto_region 5 with fail
 generalize w3.alloc _=W4 at*;have HLE:=hzz (B3j W4 u0 (E3w _) E2v (HV.out.below HB4.out));unfold C6t at HLE;rw[E2s]at HLE;dsimp only[u0,UU.cells]at HLE
 go_wp2_with fail
 refine HLE.out.mono ?_;clear HLE;rintro e w4 ⟨z,rfl,-,h8,hb3⟩;obtain rfl:=h8 (by decide);have hal:=A0f w4 (.cells #[.slice none 0 0,.int .i64 0,.int .i64 0,.slice none 0 0,.slice none 0 0] 26)
 have hbv:=hb3.trans (hal.mono hb3.size);have HB5:=btz HB4 hbv;have HG5:=hzz (A0c HG4.out hbv);have HU5:=hzz (HU4.out.below hbv);have HVR5:=hzz (HVR4.out.below hbv)
 have HVG5:=hzz (A0c HVG4.out hbv);clear h8 hb3 hal hbv HB4 HG4 HU4 HVR4 HVG4;dsimp only[KF.cells]
 go_upto_region 6 with fail
 generalize w4.alloc _=W5 at*;have HSA:=hzz (B6b W5 _ _ HU5.out HVR5.out (by rw[HVP.out];rfl) (D3n _ _ _ _ _ _));dsimp only[fxU,UU.cells]at HSA
 have HI1:=hzz (fun(W:World) (h:Below W5.heap.size W5 W)=>A5n W [97,36] (by decide) (HV.out.below (HB5.out.trans (h.mono HB5.out.size))))
 have HI2:=hzz (fun(W:World) (h:Below W5.heap.size W5 W)=>A5n W [97,47,98] (by decide) (HV.out.below (HB5.out.trans (h.mono HB5.out.size))));rw[show A7d [97,36]=true by kernel_rfl]at HI1
 rw[show A7d [97,47,98]=false by kernel_rfl]at HI2;have k0:W5.cell? ⟨w.heap.size+1+1+1,0,none⟩=some (.string ⟨#[97,47,66]⟩):=A0a HG5.out 0 rfl
 have k1:W5.cell? ⟨w.heap.size+1+1+1,1,none⟩=some (.string ⟨#[]⟩):=A0a HG5.out 1 rfl
 have k2:W5.cell? ⟨w.heap.size+1+1+1,2,none⟩=some (.slice (some ⟨w.heap.size,0,none⟩) 1 1):=A0a HG5.out 2 rfl
 have k3:W5.cell? ⟨w.heap.size+1+1+1,3,none⟩=some (.slice (some ⟨w.heap.size+1+1,0,none⟩) 1 1):=A0a HG5.out 3 rfl
 have c0:W5.cell? ⟨g4,0,none⟩=some (.string ⟨nm2.toArray⟩):=A0a HVG5.out 0 rfl;have c1:W5.cell? ⟨g4,1,none⟩=some (.string ⟨su2.toArray⟩):=A0a HVG5.out 1 rfl
 have c2:W5.cell? ⟨g4,2,none⟩=some (.slice fa2 fn2 fc2):=A0a HVG5.out 2 rfl;have c3:W5.cell? ⟨g4,3,none⟩=some (.slice ma2 mn2 mc2):=A0a HVG5.out 3 rfl
 go_wp2_with fail
 clear k0 k1 k2 k3 c0 c1 c2 c3;refine HSA.out.mono ?_;clear HSA;rintro e w5 ⟨rfl,hb5⟩
 go_wp2_with fail
 refine(HI1.out _ hb5).mono ?_;rintro e w6 ⟨rfl,hb6⟩;have hb56:=hb5.trans (hb6.mono hb5.size)
 go_wp2_with fail
 refine(HI2.out _ hb56).mono ?_;rintro e w7 ⟨rfl,hb7⟩;have hb57:=hb56.trans (hb7.mono hb56.size)
 go_wp2_with fail
 go_ret;exact⟨rfl,HB5.out.trans (hb57.mono HB5.out.size)⟩
end
section
open Go.ChangeShapes Go.WideShapes Go.ChangeAt Go.RowKit Go.Joins Go.Deep
section
variable {H:Type} {enc:TypeId×Value->H} {w:World} {r:Reach} {b0:Nat} {v:Value} {d:DataW H} {p:List MemPlace}
end
theorem vw_of{W:World}{r:List (String×DataW Unit)}(hsh:W.ShapedOpen Tryz.prog)(_:laidMet Tryz.prog r W):VW W:=
 ⟨cell_of_shapedOpen_int (t:=3) (k:= .i64) hsh (g:=0) (of_decide_eq_true (by kernel_rfl)) (zero:= #[.int .i64 0]) (by kernel_rfl) rfl (by kernel_rfl) (by kernel_rfl) Tryz.underlying3⟩
theorem handed_and_shaped{H:Type}{enc:TypeId×Value->H}{a:Assume}{C:Checked}{os:Os}{f:FuncId}{fn:Func}{s:ChangeSpec}{conds:List PathCond}{apart fresh handsOn again:Bool}{X:World->Array Value->Prop}
  (hX:∀(w w':World) (args:Array Value),w.heap=w'.heap->X w args->X w' args)
  (own:ownKnob C.prog.godebug=none) (started:os.Started) (noInit:C.prog.inits.idxOf? f=none) (hfn:C.prog.funcs[f]? =some fn)
  (witness:∃(w:World) (tape:Tape) (i:Input),w.os=os/\(w.forCall tape i).Shaped C.prog/\i.vars=[]/\Input.okWide C.prog (w.forCall tape i) .any w.heap.size f i/\
   ((s.pre enc C.prog fn conds apart (w.forCall tape i).memory i.args/\X (w.forCall tape i).memory i.args)/\sizedMet enc C.prog fn (OpenSpec.ofChange s) apart (w.forCall tape i).memory i.args)/\a.holds C.prog (lone (Frame.enter C.prog f i.args .normal) [] (w.forCall tape i)))
  (contract:∀(W:World) (base:Nat) (args:Array Value) (ds gs:List (DataW H)) (before:List MemPlace),
   (∀(j:Nat) t v,fn.params[j]? =some t->args[j]? =some v->Value.okWide C.prog W .any base t v)->
   DataW.Whole enc C.prog fn.params.toList s.vars apart W args.toList ds gs before->
   conds.all (PathCond.test C.prog ⟨fn.params.toList,ds,s.plain.varTypes C.prog,gs⟩)=true->
   (DataW.weightsEach C.prog (fn.params.toList++s.plain.varTypes C.prog) (ds++gs)).all (·<=reachBytes)=true->X W args->W.ShapedOpen C.prog->
   a.holds C.prog (lone (Frame.enter C.prog f args .normal) [] W)->
   Calls C.prog f args W fun e W'=>∃v,e= .returned v/\s.post enc C.prog fn apart fresh handsOn again W args v W'):
  ReturnsInHanded a C os f .any (fun w args=>(s.pre enc C.prog fn conds apart w args/\X w args)/\sizedMet enc C.prog fn (OpenSpec.ofChange s) apart w args) (s.post enc C.prog fn apart fresh handsOn again):=by
 refine returnsInHanded_of_calls own started noInit witness ?_;intro w tape i _ hsh _ hok hpre hholds;obtain⟨_,_,_,fn',hfn',_,_,_,_,hval⟩:=hok;have e:fn'=fn:=Option.some.inj (hfn'.symm.trans hfn)
 subst e;obtain⟨⟨⟨ds,gs,before,hw,hc⟩,hx⟩,hz⟩:=hpre;have hw':=DataW.Whole.of_heap (w':=w.forCall tape i) (by rfl) hw
 refine(contract (w.forCall tape i) w.heap.size i.args ds gs before hval hw' hc (hz.weights hw) (hX _ _ _ (by rfl) hx) hsh hholds).mono fun e W' ⟨v,he,hp⟩=> ?_
 subst he;exact ChangeSpec.post_blind hp
theorem C6e{H:Type}{enc:TypeId×Value->H}{w:World}{fuel:Nat}{x:DataW H×List MemPlace}{v:Value}(hf:DataW.trod enc Tryz.prog w 0 (fun _=>true) true fuel 4 [v]=some x):∃b:Bool,v= .bool b:=by
 obtain⟨b,hcs,_⟩:=DataW.trod_bool Tryz.underlying4 hf;simp at hcs;exact⟨b,hcs⟩
theorem E2y{H:Type}{enc:TypeId×Value->H}{w:World}{fuel:Nat}{x:DataW H×List MemPlace}{v:Value}(hf:DataW.trod enc Tryz.prog w 0 (fun _=>true) true fuel 5 [v]=some x):∃n:Nat,v= .int .u8 (n:Int)/\n<256:=by
 obtain⟨k,rfl,hk⟩:=A8q Tryz.underlying5 hf
 have hr:0<=k/\k<=255:=by
  unfold Lit.wf at hk;simp only[Bool.and_eq_true,decide_eq_true_eq]at hk;exact hk
 exact⟨k.toNat,by rw[Int.toNat_of_nonneg hr.1],by omega⟩
theorem C7h:16<=Tryz.prog.bytesOf 9:=of_decide_eq_true (by kernel_rfl)
theorem C9n:Tryz.prog.cellsOf 9=1:=by kernel_rfl
theorem B7u{H:Type}{enc:TypeId×Value->H}{w:World}{fuel:Nat}{a:Option Addr}{n cap:Nat}{x:DataW H×List MemPlace}(hf:DataW.trod enc Tryz.prog w 0 (fun _=>true) true fuel 86 [.slice a n cap]=some x)(hw:∀m∈x.1.weights Tryz.prog 86,m<=reachBytes):
  n<=cap/\n<=140737488355328/\∃L:List (List UInt8),Sl A6r w a n L/\∀c∈L,c.length<=140737488351232:=by
 obtain⟨h1,h2,h3,L,h4,h5⟩:=A8i (by omega) Tryz.underlying86 C9n (fun v:List UInt8=>[A6r v]) (fun c=>c.length<=140737488351232) (fun fuel cs x hl ht hx=>by
  obtain⟨v,rfl⟩:=E3a hl;obtain⟨e,rfl,hle⟩:=A6p ht hx;exact⟨e,rfl,hle⟩) hf hw
 have hb:=C7h;rw[A8m]at h3;exact⟨h1,by have:=Nat.mul_le_mul_left n hb;omega,L,E3v h4,h5⟩
structure InB(x:IN):Prop where
 op:x.op<256
 n:A5r x.n
 m:A5r x.m
 cl:x.cl.length<=140737488351232
 nm:x.nm.length<=140737488351232
 ds:x.ds.length<=140737488351232
 tx:x.tx.length<=140737488351232
structure UP.Big(p:UP):Prop where
 ln:p.ln<=140737488355328
 sn:p.sn<=140737488355328
 lt:∀t∈p.loc,t.length<=140737488351232
 st:∀t∈p.stk,t.length<=140737488351232
structure UM.Big(m:UM):Prop where
 nm:m.nm.length<=140737488351232
 ds:m.ds.length<=140737488351232
 cn:m.cn<=140737488355328
 tn:m.tn<=140737488355328
 mn:m.mn<=140737488355328
 ins:∀x∈m.code,InB x
 tr:∀t∈m.traps,t.cl.length<=140737488351232
 mp:∀p∈m.maps,p.Big
structure UU.Big(u:UU):Prop where
 nm:u.nm.length<=140737488351232
 su:u.su.length<=140737488351232
 fn:u.fn<=140737488355328
 mn:u.mn<=140737488355328
 fd:∀f∈u.fields,f.nm.length<=140737488351232/\f.ds.length<=140737488351232
 mt:∀m∈u.methods,m.Big
theorem C7e:16<=Tryz.prog.bytesOf 54:=of_decide_eq_true (by kernel_rfl)
theorem C9w:Tryz.prog.cellsOf 54=7:=by kernel_rfl
theorem D3y{H:Type}{enc:TypeId×Value->H}{w:World}{fuel:Nat}{a:Option Addr}{n cap:Nat}{x:DataW H×List MemPlace}(hf:DataW.trod enc Tryz.prog w 0 (fun _=>true) true fuel 55 [.slice a n cap]=some x)(hw:∀m∈x.1.weights Tryz.prog 55,m<=reachBytes):
  n<=cap/\n<=140737488355328/\∃L:List IN,Ss 7 IN.cells w a n L/\∀c∈L,InB c:=by
 obtain⟨h1,h2,h3,L,h4,h5⟩:=A8i (by omega) Tryz.underlying55 C9w IN.cells (fun c:IN=>InB c) (fun fuel cs x hl ht hx=>by
  match cs,hl with
  |[c0,c1,c2,c3,c4,c5,c6],_=>
   obtain⟨xs,k,_,hxe,_,hlen,hg⟩:=DataW.trod_struct Tryz.underlying54 ht;subst hxe
   match xs,hlen with
   |[y0,y1,y2,y3,y4,y5,y6],_=>
    have g0:DataW.trod enc Tryz.prog w 0 (fun _=>true) true k 5 [c0]=some y0:=hg 0 _ rfl;have g1:DataW.trod enc Tryz.prog w 0 (fun _=>true) true k 2 [c1]=some y1:=hg 1 _ rfl
    have g2:DataW.trod enc Tryz.prog w 0 (fun _=>true) true k 3 [c2]=some y2:=hg 2 _ rfl;have g3:DataW.trod enc Tryz.prog w 0 (fun _=>true) true k 9 [c3]=some y3:=hg 3 _ rfl
    have g4:DataW.trod enc Tryz.prog w 0 (fun _=>true) true k 9 [c4]=some y4:=hg 4 _ rfl;have g5:DataW.trod enc Tryz.prog w 0 (fun _=>true) true k 9 [c5]=some y5:=hg 5 _ rfl
    have g6:DataW.trod enc Tryz.prog w 0 (fun _=>true) true k 9 [c6]=some y6:=hg 6 _ rfl
    have hx':∀m∈DataW.weightsEach Tryz.prog [5,2,3,9,9,9,9] [y0.1,y1.1,y2.1,y3.1,y4.1,y5.1,y6.1],m<=reachBytes:=fun m hm=>hx m (by
     simp only[DataW.weights,Tryz.underlying54];exact hm)
    obtain⟨e0,rfl,w0⟩:=E2y g0;obtain⟨e1,rfl,w1⟩:=A8q Tryz.underlying2 g1;obtain⟨e2,rfl,w2⟩:=A8q Tryz.underlying3 g2
    obtain⟨e3,rfl,w3⟩:=A6p g3 fun m hm=>hx' m (DataW.weights_mem_each (j:=3) rfl rfl m hm)
    obtain⟨e4,rfl,w4⟩:=A6p g4 fun m hm=>hx' m (DataW.weights_mem_each (j:=4) rfl rfl m hm)
    obtain⟨e5,rfl,w5⟩:=A6p g5 fun m hm=>hx' m (DataW.weights_mem_each (j:=5) rfl rfl m hm)
    obtain⟨e6,rfl,w6⟩:=A6p g6 fun m hm=>hx' m (DataW.weights_mem_each (j:=6) rfl rfl m hm)
    exact⟨⟨e0,e1,e2,e3,e4,e5,e6⟩,rfl,⟨w0,D1e w1,D1e w2,w3,w4,w5,w6⟩⟩) hf hw
 have hb:=C7e;rw[A8m]at h3;exact⟨h1,by have:=Nat.mul_le_mul_left n hb;omega,L,h4,h5⟩
theorem C2t:16<=Tryz.prog.bytesOf 85:=of_decide_eq_true (by kernel_rfl)
theorem C4p:Tryz.prog.cellsOf 85=4:=by kernel_rfl
theorem C7v{H:Type}{enc:TypeId×Value->H}{w:World}{fuel:Nat}{a:Option Addr}{n cap:Nat}{x:DataW H×List MemPlace}(hf:DataW.trod enc Tryz.prog w 0 (fun _=>true) true fuel 56 [.slice a n cap]=some x)(hw:∀m∈x.1.weights Tryz.prog 56,m<=reachBytes):
  n<=cap/\n<=140737488355328/\∃L:List UT,Ss 4 UT.cells w a n L/\∀c∈L,c.cl.length<=140737488351232:=by
 obtain⟨h1,h2,h3,L,h4,h5⟩:=A8i (by omega) Tryz.underlying56 C4p UT.cells (fun c:UT=>c.cl.length<=140737488351232) (fun fuel cs x hl ht hx=>by
  match cs,hl with
  |[c0,c1,c2,c3],_=>
   obtain⟨xs,k,_,hxe,_,hlen,hg⟩:=DataW.trod_struct Tryz.underlying85 ht;subst hxe
   match xs,hlen with
   |[y0,y1,y2,y3],_=>
    have g0:DataW.trod enc Tryz.prog w 0 (fun _=>true) true k 3 [c0]=some y0:=hg 0 _ rfl;have g1:DataW.trod enc Tryz.prog w 0 (fun _=>true) true k 3 [c1]=some y1:=hg 1 _ rfl
    have g2:DataW.trod enc Tryz.prog w 0 (fun _=>true) true k 3 [c2]=some y2:=hg 2 _ rfl;have g3:DataW.trod enc Tryz.prog w 0 (fun _=>true) true k 9 [c3]=some y3:=hg 3 _ rfl
    have hx':∀m∈DataW.weightsEach Tryz.prog [3,3,3,9] [y0.1,y1.1,y2.1,y3.1],m<=reachBytes:=fun m hm=>hx m (by
     simp only[DataW.weights,Tryz.underlying85];exact hm)
    obtain⟨e0,rfl,w0⟩:=A8q Tryz.underlying3 g0;obtain⟨e1,rfl,w1⟩:=A8q Tryz.underlying3 g1;obtain⟨e2,rfl,w2⟩:=A8q Tryz.underlying3 g2
    obtain⟨e3,rfl,w3⟩:=A6p g3 fun m hm=>hx' m (DataW.weights_mem_each (j:=3) rfl rfl m hm)
    exact⟨⟨e0,e1,e2,e3⟩,rfl,w3⟩) hf hw
 have hb:=C2t;rw[A8m]at h3;exact⟨h1,by have:=Nat.mul_le_mul_left n hb;omega,L,h4,h5⟩
theorem C8i:16<=Tryz.prog.bytesOf 88:=of_decide_eq_true (by kernel_rfl)
theorem C9t:Tryz.prog.cellsOf 88=3:=by kernel_rfl
theorem D0z{H:Type}{enc:TypeId×Value->H}{w:World}{fuel:Nat}{a:Option Addr}{n cap:Nat}{x:DataW H×List MemPlace}(hf:DataW.trod enc Tryz.prog w 0 (fun _=>true) true fuel 57 [.slice a n cap]=some x)(hw:∀m∈x.1.weights Tryz.prog 57,m<=reachBytes):
  n<=cap/\n<=140737488355328/\∃L:List UP,Ss 3 UP.cells w a n L/\∀c∈L,(c.Rd w/\c.Big):=by
 obtain⟨h1,h2,h3,L,h4,h5⟩:=A8i (by omega) Tryz.underlying57 C9t UP.cells (fun c:UP=>(c.Rd w/\c.Big)) (fun fuel cs x hl ht hx=>by
  match cs,hl with
  |[c0,c1,c2],_=>
   obtain⟨xs,k,_,hxe,_,hlen,hg⟩:=DataW.trod_struct Tryz.underlying88 ht;subst hxe
   match xs,hlen with
   |[y0,y1,y2],_=>
    have g0:DataW.trod enc Tryz.prog w 0 (fun _=>true) true k 3 [c0]=some y0:=hg 0 _ rfl;have g1:DataW.trod enc Tryz.prog w 0 (fun _=>true) true k 86 [c1]=some y1:=hg 1 _ rfl
    have g2:DataW.trod enc Tryz.prog w 0 (fun _=>true) true k 86 [c2]=some y2:=hg 2 _ rfl
    have hx':∀m∈DataW.weightsEach Tryz.prog [3,86,86] [y0.1,y1.1,y2.1],m<=reachBytes:=fun m hm=>hx m (by
     simp only[DataW.weights,Tryz.underlying88];exact hm)
    obtain⟨e0,rfl,w0⟩:=A8q Tryz.underlying3 g0;obtain⟨a1,n1,k1,rfl⟩:=B4y Tryz.underlying86 g1
    obtain⟨h1a,h1b,L1,h1c,h1d⟩:=B7u g1 fun m hm=>hx' m (DataW.weights_mem_each (j:=1) rfl rfl m hm)
    obtain⟨a2,n2,k2,rfl⟩:=B4y Tryz.underlying86 g2;obtain⟨h2a,h2b,L2,h2c,h2d⟩:=B7u g2 fun m hm=>hx' m (DataW.weights_mem_each (j:=2) rfl rfl m hm)
    exact⟨⟨e0,a1,n1,k1,L1,a2,n2,k2,L2⟩,rfl,⟨⟨h1c,h2c⟩,⟨h1b,h2b,h1d,h2d⟩⟩⟩) hf hw
 have hb:=C8i;rw[A8m]at h3;exact⟨h1,by have:=Nat.mul_le_mul_left n hb;omega,L,h4,h5⟩
theorem C0v:16<=Tryz.prog.bytesOf 52:=of_decide_eq_true (by kernel_rfl)
theorem C0z:Tryz.prog.cellsOf 52=3:=by kernel_rfl
theorem C4t{H:Type}{enc:TypeId×Value->H}{w:World}{fuel:Nat}{a:Option Addr}{n cap:Nat}{x:DataW H×List MemPlace}(hf:DataW.trod enc Tryz.prog w 0 (fun _=>true) true fuel 29 [.slice a n cap]=some x)(hw:∀m∈x.1.weights Tryz.prog 29,m<=reachBytes):
  n<=cap/\n<=140737488355328/\∃L:List UF,Ss 3 UF.cells w a n L/\∀c∈L,c.nm.length<=140737488351232/\c.ds.length<=140737488351232:=by
 obtain⟨h1,h2,h3,L,h4,h5⟩:=A8i (by omega) Tryz.underlying29 C0z UF.cells (fun c:UF=>c.nm.length<=140737488351232/\c.ds.length<=140737488351232) (fun fuel cs x hl ht hx=>by
  match cs,hl with
  |[c0,c1,c2],_=>
   obtain⟨xs,k,_,hxe,_,hlen,hg⟩:=DataW.trod_struct Tryz.underlying52 ht;subst hxe
   match xs,hlen with
   |[y0,y1,y2],_=>
    have g0:DataW.trod enc Tryz.prog w 0 (fun _=>true) true k 4 [c0]=some y0:=hg 0 _ rfl;have g1:DataW.trod enc Tryz.prog w 0 (fun _=>true) true k 9 [c1]=some y1:=hg 1 _ rfl
    have g2:DataW.trod enc Tryz.prog w 0 (fun _=>true) true k 9 [c2]=some y2:=hg 2 _ rfl
    have hx':∀m∈DataW.weightsEach Tryz.prog [4,9,9] [y0.1,y1.1,y2.1],m<=reachBytes:=fun m hm=>hx m (by
     simp only[DataW.weights,Tryz.underlying52];exact hm)
    obtain⟨e0,rfl⟩:=C6e g0;obtain⟨e1,rfl,w1⟩:=A6p g1 fun m hm=>hx' m (DataW.weights_mem_each (j:=1) rfl rfl m hm)
    obtain⟨e2,rfl,w2⟩:=A6p g2 fun m hm=>hx' m (DataW.weights_mem_each (j:=2) rfl rfl m hm)
    exact⟨⟨e0,e1,e2⟩,rfl,⟨w1,w2⟩⟩) hf hw
 have hb:=C0v;rw[A8m]at h3;exact⟨h1,by have:=Nat.mul_le_mul_left n hb;omega,L,h4,h5⟩
theorem C3u:16<=Tryz.prog.bytesOf 59:=of_decide_eq_true (by kernel_rfl)
theorem C4a:Tryz.prog.cellsOf 59=8:=by kernel_rfl
theorem C8w{H:Type}{enc:TypeId×Value->H}{w:World}{fuel:Nat}{a:Option Addr}{n cap:Nat}{x:DataW H×List MemPlace}(hf:DataW.trod enc Tryz.prog w 0 (fun _=>true) true fuel 30 [.slice a n cap]=some x)(hw:∀m∈x.1.weights Tryz.prog 30,m<=reachBytes):
  n<=cap/\n<=140737488355328/\∃L:List UM,Ss 8 UM.cells w a n L/\∀c∈L,(c.Rd w/\c.Big):=by
 obtain⟨h1,h2,h3,L,h4,h5⟩:=A8i (by omega) Tryz.underlying30 C4a UM.cells (fun c:UM=>(c.Rd w/\c.Big)) (fun fuel cs x hl ht hx=>by
  match cs,hl with
  |[c0,c1,c2,c3,c4,c5,c6,c7],_=>
   obtain⟨xs,k,_,hxe,_,hlen,hg⟩:=DataW.trod_struct Tryz.underlying59 ht;subst hxe
   match xs,hlen with
   |[y0,y1,y2,y3,y4,y5,y6,y7],_=>
    have g0:DataW.trod enc Tryz.prog w 0 (fun _=>true) true k 4 [c0]=some y0:=hg 0 _ rfl;have g1:DataW.trod enc Tryz.prog w 0 (fun _=>true) true k 9 [c1]=some y1:=hg 1 _ rfl
    have g2:DataW.trod enc Tryz.prog w 0 (fun _=>true) true k 9 [c2]=some y2:=hg 2 _ rfl;have g3:DataW.trod enc Tryz.prog w 0 (fun _=>true) true k 3 [c3]=some y3:=hg 3 _ rfl
    have g4:DataW.trod enc Tryz.prog w 0 (fun _=>true) true k 3 [c4]=some y4:=hg 4 _ rfl;have g5:DataW.trod enc Tryz.prog w 0 (fun _=>true) true k 55 [c5]=some y5:=hg 5 _ rfl
    have g6:DataW.trod enc Tryz.prog w 0 (fun _=>true) true k 56 [c6]=some y6:=hg 6 _ rfl;have g7:DataW.trod enc Tryz.prog w 0 (fun _=>true) true k 57 [c7]=some y7:=hg 7 _ rfl
    have hx':∀m∈DataW.weightsEach Tryz.prog [4,9,9,3,3,55,56,57] [y0.1,y1.1,y2.1,y3.1,y4.1,y5.1,y6.1,y7.1],m<=reachBytes:=fun m hm=>hx m (by
     simp only[DataW.weights,Tryz.underlying59];exact hm)
    obtain⟨e0,rfl⟩:=C6e g0;obtain⟨e1,rfl,w1⟩:=A6p g1 fun m hm=>hx' m (DataW.weights_mem_each (j:=1) rfl rfl m hm)
    obtain⟨e2,rfl,w2⟩:=A6p g2 fun m hm=>hx' m (DataW.weights_mem_each (j:=2) rfl rfl m hm)
    obtain⟨e3,rfl,w3⟩:=A8q Tryz.underlying3 g3;obtain⟨e4,rfl,w4⟩:=A8q Tryz.underlying3 g4;obtain⟨a5,n5,k5,rfl⟩:=B4y Tryz.underlying55 g5
    obtain⟨h5a,h5b,L5,h5c,h5d⟩:=D3y g5 fun m hm=>hx' m (DataW.weights_mem_each (j:=5) rfl rfl m hm)
    obtain⟨a6,n6,k6,rfl⟩:=B4y Tryz.underlying56 g6;obtain⟨h6a,h6b,L6,h6c,h6d⟩:=C7v g6 fun m hm=>hx' m (DataW.weights_mem_each (j:=6) rfl rfl m hm)
    obtain⟨a7,n7,k7,rfl⟩:=B4y Tryz.underlying57 g7;obtain⟨h7a,h7b,L7,h7c,h7d⟩:=D0z g7 fun m hm=>hx' m (DataW.weights_mem_each (j:=7) rfl rfl m hm)
    exact⟨⟨e0,e1,e2,e3,e4,a5,n5,k5,L5,a6,n6,k6,L6,a7,n7,k7,L7⟩,rfl,⟨⟨h5c,h6c,h7c,fun p hp=>(h7d p hp).1⟩,⟨w1,w2,h5b,h6b,h7b,h5d,h6d,fun p hp=>(h7d p hp).2⟩⟩⟩) hf hw
 have hb:=C3u;rw[A8m]at h3;exact⟨h1,by have:=Nat.mul_le_mul_left n hb;omega,L,h4,h5⟩
theorem C3s:Tryz.prog.cellsOf 32=4:=by kernel_rfl
structure D8f(w:World)(u:UU):Prop where
 rd:u.Rd w
 big:u.Big
theorem open_unit{H:Type}{enc:TypeId×Value->H}{w:World}{r:Reach}{b0:Nat}{v:Value}{d:DataW H}{p:List MemPlace}(hv:Value.okWide Tryz.prog w r b0 32 v)(h:DataW.Trod enc Tryz.prog w 0 (fun _=>true) true 32 v d p)(hw:∀m∈d.weights Tryz.prog 32,m<=reachBytes):
  ∃x:UU,v= .agg x.cells.toArray/\D8f w x:=by
 obtain⟨cs,rfl,hsz⟩:=okWide_struct Tryz.underlying32 hv;obtain⟨fuel,hf⟩:=h;obtain⟨cl⟩:=cs;have hl:cl.length=4:=hsz.trans C3s
 match cl,hl with
 |[c0,c1,c2,c3],_=>
  have hf:DataW.trod enc Tryz.prog w 0 (fun _=>true) true fuel 32 [c0,c1,c2,c3]=some (d,p):=hf;obtain⟨xs,k,_,hxe,_,hlen,hg⟩:=DataW.trod_struct Tryz.underlying32 hf
  match xs,hlen with
  |[y0,y1,y2,y3],_=>
   have g0:DataW.trod enc Tryz.prog w 0 (fun _=>true) true k 9 [c0]=some y0:=hg 0 _ rfl;have g1:DataW.trod enc Tryz.prog w 0 (fun _=>true) true k 9 [c1]=some y1:=hg 1 _ rfl
   have g2:DataW.trod enc Tryz.prog w 0 (fun _=>true) true k 29 [c2]=some y2:=hg 2 _ rfl;have g3:DataW.trod enc Tryz.prog w 0 (fun _=>true) true k 30 [c3]=some y3:=hg 3 _ rfl
   have hd:d= .agg [y0.1,y1.1,y2.1,y3.1]:=congrArg Prod.fst hxe;subst hd
   have hx':∀m∈DataW.weightsEach Tryz.prog [9,9,29,30] [y0.1,y1.1,y2.1,y3.1],m<=reachBytes:=fun m hm=>hw m (by
    simp only[DataW.weights,Tryz.underlying32];exact hm)
   obtain⟨e0,rfl,w0⟩:=A6p g0 fun m hm=>hx' m (DataW.weights_mem_each (j:=0) rfl rfl m hm)
   obtain⟨e1,rfl,w1⟩:=A6p g1 fun m hm=>hx' m (DataW.weights_mem_each (j:=1) rfl rfl m hm)
   obtain⟨a2,n2,k2,rfl⟩:=B4y Tryz.underlying29 g2;obtain⟨a3,n3,k3,rfl⟩:=B4y Tryz.underlying30 g3
   obtain⟨_,i2,L2,s2,q2⟩:=C4t g2 fun m hm=>hx' m (DataW.weights_mem_each (j:=2) rfl rfl m hm)
   obtain⟨_,i3,L3,s3,q3⟩:=C8w g3 fun m hm=>hx' m (DataW.weights_mem_each (j:=3) rfl rfl m hm)
   exact⟨⟨e0,e1,a2,n2,k2,L2,a3,n3,k3,L3⟩,rfl,⟨s2,s3,fun m hm=>(q3 m hm).1⟩,⟨w0,w1,i2,i3,q2,fun m hm=>(q3 m hm).2⟩⟩
end
end Go.Proofs.YtclpkipaehpkdaaGreatDoor
