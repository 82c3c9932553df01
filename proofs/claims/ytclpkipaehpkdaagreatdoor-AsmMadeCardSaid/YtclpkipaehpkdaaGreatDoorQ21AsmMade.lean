/- asm -/
import Derived.Test.YtclpkipaehpkdaaGreatDoorQ19AsmMade
import Derived.Test.YtclpkipaehpkdaaGreatDoorQ15AsmMade
import Derived.LaidHandle
import Derived.WideShapes
set_option linter.unusedVariables false
set_option linter.unusedSimpArgs false
set_option maxRecDepth 100000
set_option maxHeartbeats 64000000
namespace Go.Proofs.YtclpkipaehpkdaaGreatDoor
section
open Go.ChangeShapes Go.WideShapes Go.ChangeAt Go.RowKit
theorem B6y:Tryz.prog.underlying 85=some (.struct (Tryz.prog.fieldsOf 85)):=by kernel_rfl
theorem C0z:Tryz.prog.stoodInHeld 85=false:=by kernel_rfl
theorem B8x:Tryz.prog.eqGuardType Tryz.prog.depth 85=false:=by kernel_rfl
theorem C1i:(Tryz.prog.fieldsOf 85).toList.map (fun f=>(f.name,f.type,f.offset))=[("From",3,0),("To",3,1),("At",3,2),("Class",9,3)]:=by kernel_rfl
theorem B8m(w:World)(d:Nat)(x0:Int)(x1:Int)(x2:Int)(x3:List UInt8):(Op.equalIn (d+1+1) 85 (.agg #[.int .i64 x0,.int .i64 x1,.int .i64 x2,.string ⟨x3.toArray⟩]) (.agg #[.int .i64 x0,.int .i64 x1,.int .i64 x2,.string ⟨x3.toArray⟩])).run Tryz.prog w= .ok true w:=by
 rw[run_equalIn_struct w (d+1) _ _ _ B6y C0z];have hl:=C1i
 match hf:(Tryz.prog.fieldsOf 85).toList,hl with
 |[f0,f1,f2,f3],hl=>
  simp only[List.map_cons,List.map_nil,List.cons.injEq,Prod.mk.injEq,and_true]at hl;obtain⟨⟨n0,t0,o0⟩,⟨n1,t1,o1⟩,⟨n2,t2,o2⟩,⟨n3,t3,o3⟩⟩:=hl
  simp only[Op.eqFields,n0,n1,n2,n3,t0,t1,t2,t3,o0,o1,o2,o3]
  have i0:∀(i:Nat) (cs:Array Value) (w:World) (h:i<cs.size),(part 3 cs i).run Tryz.prog w= .ok cs[i] w:=fun i cs w h=>A5q Tryz.underlying3 rfl w cs i _ (Array.getElem?_eq_getElem h)
  have i1:∀(i:Nat) (cs:Array Value) (w:World) (h:i<cs.size),(part 9 cs i).run Tryz.prog w= .ok cs[i] w:=fun i cs w h=>A5q Tryz.underlying9 rfl w cs i _ (Array.getElem?_eq_getElem h)
  have i2:∀(i:Nat) (cs:Array Value) (w:World) (h:i<cs.size),(part 4 cs i).run Tryz.prog w= .ok cs[i] w:=fun i cs w h=>A5q Tryz.underlying4 rfl w cs i _ (Array.getElem?_eq_getElem h)
  simp[i0,i1,i2,run_equalIn_int _ _ _ _ _ _ _ Tryz.underlying3,run_equalIn_string _ _ _ _ _ Tryz.underlying9,run_equalIn_bool _ _ _ _ _ Tryz.underlying4]
 |[],hl|[_],hl|[_,_],hl|[_,_,_],hl|_::_::_::_::_::_,hl=>simp at hl
theorem C6b(w:World)(x0:Int)(x1:Int)(x2:Int)(x3:List UInt8)(y1 y2:Operand):((eqGuard .neq 85 y1 y2 (.agg #[.int .i64 x0,.int .i64 x1,.int .i64 x2,.string ⟨x3.toArray⟩]) (.agg #[.int .i64 x0,.int .i64 x1,.int .i64 x2,.string ⟨x3.toArray⟩])).run Tryz.prog w).andThen (fun _ w'=>(binOp .neq 85 (.agg #[.int .i64 x0,.int .i64 x1,.int .i64 x2,.string ⟨x3.toArray⟩]) (.agg #[.int .i64 x0,.int .i64 x1,.int .i64 x2,.string ⟨x3.toArray⟩])).run Tryz.prog w')= .ok (.bool false) w:=by
 have h:=B8m w 9998 x0 x1 x2 x3;rw[run_eqGuard_agg w _ _ _ _ _ _ B8x,Result.andThen_ok,run_neq_struct,h,Result.andThen_ok];rfl
theorem B4y:Tryz.prog.underlying 52=some (.struct (Tryz.prog.fieldsOf 52)):=by kernel_rfl
theorem C0f:Tryz.prog.stoodInHeld 52=false:=by kernel_rfl
theorem B7i:Tryz.prog.eqGuardType Tryz.prog.depth 52=false:=by kernel_rfl
theorem B8u:(Tryz.prog.fieldsOf 52).toList.map (fun f=>(f.name,f.type,f.offset))=[("Static",4,0),("Name",9,1),("Desc",9,2)]:=by kernel_rfl
theorem B7j(w:World)(d:Nat)(x0:Bool)(x1:List UInt8)(x2:List UInt8):(Op.equalIn (d+1+1) 52 (.agg #[.bool x0,.string ⟨x1.toArray⟩,.string ⟨x2.toArray⟩]) (.agg #[.bool x0,.string ⟨x1.toArray⟩,.string ⟨x2.toArray⟩])).run Tryz.prog w= .ok true w:=by
 rw[run_equalIn_struct w (d+1) _ _ _ B4y C0f];have hl:=B8u
 match hf:(Tryz.prog.fieldsOf 52).toList,hl with
 |[f0,f1,f2],hl=>
  simp only[List.map_cons,List.map_nil,List.cons.injEq,Prod.mk.injEq,and_true]at hl;obtain⟨⟨n0,t0,o0⟩,⟨n1,t1,o1⟩,⟨n2,t2,o2⟩⟩:=hl;simp only[Op.eqFields,n0,n1,n2,t0,t1,t2,o0,o1,o2]
  have i0:∀(i:Nat) (cs:Array Value) (w:World) (h:i<cs.size),(part 3 cs i).run Tryz.prog w= .ok cs[i] w:=fun i cs w h=>A5q Tryz.underlying3 rfl w cs i _ (Array.getElem?_eq_getElem h)
  have i1:∀(i:Nat) (cs:Array Value) (w:World) (h:i<cs.size),(part 9 cs i).run Tryz.prog w= .ok cs[i] w:=fun i cs w h=>A5q Tryz.underlying9 rfl w cs i _ (Array.getElem?_eq_getElem h)
  have i2:∀(i:Nat) (cs:Array Value) (w:World) (h:i<cs.size),(part 4 cs i).run Tryz.prog w= .ok cs[i] w:=fun i cs w h=>A5q Tryz.underlying4 rfl w cs i _ (Array.getElem?_eq_getElem h)
  simp[i0,i1,i2,run_equalIn_int _ _ _ _ _ _ _ Tryz.underlying3,run_equalIn_string _ _ _ _ _ Tryz.underlying9,run_equalIn_bool _ _ _ _ _ Tryz.underlying4]
 |[],hl|[_],hl|[_,_],hl|_::_::_::_::_,hl=>simp at hl
theorem C2y(w:World)(x0:Bool)(x1:List UInt8)(x2:List UInt8)(y1 y2:Operand):((eqGuard .neq 52 y1 y2 (.agg #[.bool x0,.string ⟨x1.toArray⟩,.string ⟨x2.toArray⟩]) (.agg #[.bool x0,.string ⟨x1.toArray⟩,.string ⟨x2.toArray⟩])).run Tryz.prog w).andThen (fun _ w'=>(binOp .neq 52 (.agg #[.bool x0,.string ⟨x1.toArray⟩,.string ⟨x2.toArray⟩]) (.agg #[.bool x0,.string ⟨x1.toArray⟩,.string ⟨x2.toArray⟩])).run Tryz.prog w')= .ok (.bool false) w:=by
 have h:=B7j w 9998 x0 x1 x2;rw[run_eqGuard_agg w _ _ _ _ _ _ B7i,Result.andThen_ok,run_neq_struct,h,Result.andThen_ok];rfl
theorem D1e(w:World)(x:IN)(y1 y2:Operand):((eqGuard .neq A2e y1 y2 (.agg x.cells.toArray) (.agg x.cells.toArray)).run Tryz.prog w).andThen (fun _ w'=>(binOp .neq A2e (.agg x.cells.toArray) (.agg x.cells.toArray)).run Tryz.prog w')= .ok (.bool false) w:=by
 have h:=B2h w 9998 x x;rw[show A9z x x=true by simp[A9z]]at h;unfold IN.cells at*;rw[run_eqGuard_agg w _ _ _ _ _ _ B2e,Result.andThen_ok,run_neq_struct,h,Result.andThen_ok];rfl
theorem A9e(x:List UInt8):((⟨x.toArray⟩:ByteArray).toList !=(⟨x.toArray⟩:ByteArray).toList)=false:=by simp
theorem B1c(w:World)(a:Option Addr)(n cap:Nat)(b:Option Addr)(cb:Nat)(l:List (List UInt8))(hs:Sl B0d w a n l)(ht:Sl B0d w b n l)(hn:n<=1000000000):
  Calls Tryz.prog 70 #[.slice a n cap,.slice b n cb] w (A4p true w):=by
 have HS:=hzz hs;have HT:=hzz ht;clear hs ht;go_enter Tryz.func70,Tryz.ntmps70;have e1:((n:Int) !=(n:Int))=false:=by simp
 go_wp2_with fail
 go_loopg [13] n (fun gn i wr=>∃j:Nat,j<=n/\gn=n-j/\i= .int .i64 j/\Hid (Below w.heap.size w wr))
 case atStart=>exact⟨0,by omega,by omega,by go_num,hzz brz⟩
 obtain⟨j,hj,rfl,rfl,HB⟩:=hrel;by_cases hlt:j<n
 ·obtain⟨b1,off1,x,rfl,_,hv,p⟩:=Sl.getE (HS.out.below HB.out) j hlt;obtain⟨b2,off2,y,rfl,_,hv2,q⟩:=Sl.getE (HT.out.below HB.out) j hlt
  obtain rfl:x=y:=by rw[hv]at hv2;exact Option.some.inj hv2
  unfold B0d at p q;clear hv hv2;have hj1:(j:Int)<n:=by omega
  go_upto_region 6 with fail
  have hSw:EqW wr.drew wr.drew:=rfl;have l0:=fun u (h:EqW wr.drew u)=>A1a h p
  have m0:=fun u (h:EqW wr.drew u)=>A1a h q
  have ne2:=A9e x;clear p q
  refine A0h (EqW wr.drew) (.stir [(0,true),(1,true),(2,true),(3,true),(4,true),(5,true),(6,true),(7,true),(8,true)]) (by kernel_rfl) (by kernel_rfl) (fun c a d v w h=>by cases d<;>exact h) ?_
  refine A0m (EqW wr.drew) (fun y hy=>hy) rfl ?_
  iterate 9
   refine A0i fun K hK=>tkX ?_
   go_simp
   try go_bits
   refine hK _ ?_;clear hK K
  refine A0p (fun u hu=> ?_);obtain rfl:u=wr.drew:=hu;clear l0 m0 hSw
  go_wp2_with fail
  go_roundg (n-(j+1))
  case measure=>omega
  exact⟨j+1,by omega,rfl,by go_num,hzz HB.out.drew⟩
 obtain rfl:n=j:=by omega
 go_wp2_with fail
 go_ret;exact⟨rfl,HB.out⟩
theorem B7n(w:World)(m m2:UM)(h:m.Rd w)(h2:m2.Rd w)(hp:m.p=m2.p)(hf:m.Fit)(hb4:∀p∈m.maps,p.ln<=1000000000/\p.sn<=1000000000):
  Calls Tryz.prog 30 #[.agg m.cells.toArray,.agg m2.cells.toArray] w (A4p true w):=by
 have HX:=hzz h;have HY:=hzz h2;have HB4:=hzz hb4;have l1:=h.code.1;have l2:=h.traps.1;have l3:=h.maps.1;have r1:=h2.code.1;have r2:=h2.traps.1;have r3:=h2.maps.1;have f1:=hf.code
 have f2:=hf.traps;have f3:=hf.maps;clear h h2 hb4 hf;obtain⟨st,nm,ds,sk,lo,ca,cn,cc,code,ta,tn,tc,traps,na,nn,nc,maps⟩:=m
 obtain⟨st2,nm2,ds2,sk2,lo2,ca2,cn2,cc2,code2,ta2,tn2,tc2,traps2,na2,nn2,nc2,maps2⟩:=m2;simp only[UM.p,UM.mk.injEq]at hp
 obtain⟨rfl,rfl,rfl,rfl,rfl,-,-,-,rfl,-,-,-,rfl,-,-,-,hpm⟩:=hp;dsimp only at*;have l4:=congrArg List.length hpm;rw[List.length_map,List.length_map]at l4;obtain rfl:cn=cn2:=by omega
 obtain rfl:tn=tn2:=by omega
 obtain rfl:nn=nn2:=by omega
 have hb1:cn<=1000000000:=by omega
 have hb2:tn<=1000000000:=by omega
 have hb3:nn<=1000000000:=by omega
 have HPM:=hzz hpm;clear l1 l2 l3 r1 r2 r3 l4 hpm f1 f2 f3;unfold UM.cells;dsimp only
 have hal1:Below w.heap.size w (w.alloc (.cells #[.bool st,.string ⟨nm.toArray⟩,.string ⟨ds.toArray⟩,.int .i64 sk,.int .i64 lo,.slice ca cn cc,.slice ta tn tc,.slice na nn nc] 59)):=A0f _ _
 have hal2:=A0f (w.alloc (.cells #[.bool st,.string ⟨nm.toArray⟩,.string ⟨ds.toArray⟩,.int .i64 sk,.int .i64 lo,.slice ca cn cc,.slice ta tn tc,.slice na nn nc] 59)) (.cells #[.bool st,.string ⟨nm.toArray⟩,.string ⟨ds.toArray⟩,.int .i64 sk,.int .i64 lo,.slice ca2 cn cc2,.slice ta2 tn tc2,.slice na2 nn nc2] 59)
 have HT1:=hzz (A0e (heap_alloc_last w (.cells #[.bool st,.string ⟨nm.toArray⟩,.string ⟨ds.toArray⟩,.int .i64 sk,.int .i64 lo,.slice ca cn cc,.slice ta tn tc,.slice na nn nc] 59)) hal2)
 have HT2:=heap_alloc_last (w.alloc (.cells #[.bool st,.string ⟨nm.toArray⟩,.string ⟨ds.toArray⟩,.int .i64 sk,.int .i64 lo,.slice ca cn cc,.slice ta tn tc,.slice na nn nc] 59)) (.cells #[.bool st,.string ⟨nm.toArray⟩,.string ⟨ds.toArray⟩,.int .i64 sk,.int .i64 lo,.slice ca2 cn cc2,.slice ta2 tn tc2,.slice na2 nn nc2] 59)
 rw[show(w.alloc (.cells #[.bool st,.string ⟨nm.toArray⟩,.string ⟨ds.toArray⟩,.int .i64 sk,.int .i64 lo,.slice ca cn cc,.slice ta tn tc,.slice na nn nc] 59)).heap.size=w.heap.size+1 by simp]at HT2
 replace HT2:=hzz HT2;have HB0:=hzz (hal1.trans (hal2.mono hal1.size));clear hal1 hal2;go_enter Tryz.func30,Tryz.ntmps30
 go_upto_region 1 with fail
 generalize(w.alloc (.cells #[.bool st,.string ⟨nm.toArray⟩,.string ⟨ds.toArray⟩,.int .i64 sk,.int .i64 lo,.slice ca cn cc,.slice ta tn tc,.slice na nn nc] 59)).alloc (.cells #[.bool st,.string ⟨nm.toArray⟩,.string ⟨ds.toArray⟩,.int .i64 sk,.int .i64 lo,.slice ca2 cn cc2,.slice ta2 tn tc2,.slice na2 nn nc2] 59)=W0 at*
 obtain⟨u1,hu1⟩:∃b,b=w.heap.size:=⟨_,rfl⟩;obtain⟨u2,hu2⟩:∃b,b=w.heap.size+1:=⟨_,rfl⟩;rw[<-hu1]at HT1;rw[<-hu2]at HT2;rw[<-hu2,<-hu1];clear hu1 hu2;have k0:=A0a HT1.out 0 rfl
 have k1:=A0a HT1.out 1 rfl;have k2:=A0a HT1.out 2 rfl;have k3:=A0a HT1.out 3 rfl;have k4:=A0a HT1.out 4 rfl;have k5:=A0a HT1.out 5 rfl;have k6:=A0a HT1.out 6 rfl
 have k7:=A0a HT1.out 7 rfl;have j0:=A0a HT2.out 0 rfl;have j1:=A0a HT2.out 1 rfl;have j2:=A0a HT2.out 2 rfl;have j3:=A0a HT2.out 3 rfl;have j4:=A0a HT2.out 4 rfl
 have j5:=A0a HT2.out 5 rfl;have j6:=A0a HT2.out 6 rfl;have j7:=A0a HT2.out 7 rfl;dsimp at k0 k1 k2 k3 k4 k5 k6 k7 j0 j1 j2 j3 j4 j5 j6 j7;have e0:(st !=st)=false:=by simp
 have e1':=A9e nm;have e2':=A9e ds;have e3:(sk !=sk)=false:=by simp
 have e4:(lo !=lo)=false:=by simp
 have e5:((cn:Int) !=(cn:Int))=false:=by simp
 have e6:((tn:Int) !=(tn:Int))=false:=by simp
 have e7:((nn:Int) !=(nn:Int))=false:=by simp
 go_cut [67] (fun r wx=>r= .bool false/\wx=W0)
 case first=>
  go_wp2_with fail
  go_meet;exact⟨by simp,rfl⟩
 obtain⟨rfl,rfl⟩:=hcut;clear e0 e3 e4 e5 e6 e7 e1' e2' k0 k1 k2 k3 k4 j0 j1 j2 j3 j4 j5 k7 j7 j6 k6
 go_wp2_with fail
 clear k5
 go_loopg [71] cn (fun gn i wr=>∃j:Nat,j<=cn/\gn=cn-j/\i= .int .i64 j/\Hid (Below wc.heap.size wc wr))
 case atStart=>exact⟨0,by omega,by omega,by go_num,hzz brz⟩
 obtain⟨j,hj,rfl,rfl,HB⟩:=hrel;have HWB:=btz HB0 HB.out;by_cases hlt:j<cn
 ·skip
  obtain⟨b1,off1,x,rfl,_,hv,p⟩:=Ss.getC (HX.out.code.below HWB.out) j hlt;obtain⟨b2,off2,y,rfl,_,hv2,q⟩:=Ss.getC (HY.out.code.below HWB.out) j hlt
  obtain rfl:x=y:=by rw[hv]at hv2;exact Option.some.inj hv2
  obtain⟨op,n,m,cl,nx,dx,tx⟩:=x;have p0:wr.cell? ⟨b1,off1+j*7,none⟩=some (.int .u8 (op:Nat)):=p 0 (by omega)
  have p1:wr.cell? ⟨b1,off1+j*7+1,none⟩=some (.int .i64 n):=p 1 (by omega);have p2:wr.cell? ⟨b1,off1+j*7+2,none⟩=some (.int .i64 m):=p 2 (by omega)
  have p3:wr.cell? ⟨b1,off1+j*7+3,none⟩=some (.string ⟨cl.toArray⟩):=p 3 (by omega);have p4:wr.cell? ⟨b1,off1+j*7+4,none⟩=some (.string ⟨nx.toArray⟩):=p 4 (by omega)
  have p5:wr.cell? ⟨b1,off1+j*7+5,none⟩=some (.string ⟨dx.toArray⟩):=p 5 (by omega);have p6:wr.cell? ⟨b1,off1+j*7+6,none⟩=some (.string ⟨tx.toArray⟩):=p 6 (by omega)
  have q0:wr.cell? ⟨b2,off2+j*7,none⟩=some (.int .u8 (op:Nat)):=q 0 (by omega);have q1:wr.cell? ⟨b2,off2+j*7+1,none⟩=some (.int .i64 n):=q 1 (by omega)
  have q2:wr.cell? ⟨b2,off2+j*7+2,none⟩=some (.int .i64 m):=q 2 (by omega);have q3:wr.cell? ⟨b2,off2+j*7+3,none⟩=some (.string ⟨cl.toArray⟩):=q 3 (by omega)
  have q4:wr.cell? ⟨b2,off2+j*7+4,none⟩=some (.string ⟨nx.toArray⟩):=q 4 (by omega);have q5:wr.cell? ⟨b2,off2+j*7+5,none⟩=some (.string ⟨dx.toArray⟩):=q 5 (by omega)
  have q6:wr.cell? ⟨b2,off2+j*7+6,none⟩=some (.string ⟨tx.toArray⟩):=q 6 (by omega);have k6:=A0a (A0e HT1.out HB.out) 5 rfl;have j6:=A0a (A0e HT2.out HB.out) 5 rfl
  dsimp at k6 j6;clear p q hv hv2;have hj1:(j:Int)<cn:=by omega
  go_upto_region 6 with fail
  have hSw:EqW wr.drew wr.drew:=rfl;have l0:=fun u (h:EqW wr.drew u)=>A1a h p0
  have m0:=fun u (h:EqW wr.drew u)=>A1a h q0
  have l1:=fun u (h:EqW wr.drew u)=>A1a h p1
  have m1:=fun u (h:EqW wr.drew u)=>A1a h q1
  have l2:=fun u (h:EqW wr.drew u)=>A1a h p2
  have m2:=fun u (h:EqW wr.drew u)=>A1a h q2
  have l3:=fun u (h:EqW wr.drew u)=>A1a h p3
  have m3:=fun u (h:EqW wr.drew u)=>A1a h q3
  have l4:=fun u (h:EqW wr.drew u)=>A1a h p4
  have m4:=fun u (h:EqW wr.drew u)=>A1a h q4
  have l5:=fun u (h:EqW wr.drew u)=>A1a h p5
  have m5:=fun u (h:EqW wr.drew u)=>A1a h q5
  have l6:=fun u (h:EqW wr.drew u)=>A1a h p6
  have m6:=fun u (h:EqW wr.drew u)=>A1a h q6
  have n0:=fun u (h:EqW wr.drew u)=>A1a h k6
  have n1:=fun u (h:EqW wr.drew u)=>A1a h j6
  have HNE:=hzz (fun u o1 o2=>by simpa[IN.cells]using D1e u ⟨op,n,m,cl,nx,dx,tx⟩ o1 o2);clear p0 q0 p1 q1 p2 q2 p3 q3 p4 q4 p5 q5 p6 q6 k6 j6
  refine A0h (EqW wr.drew) (.stir [(0,true),(1,true),(2,true),(3,true),(4,true),(5,true),(6,true),(7,true),(8,true),(9,true),(10,true)]) (by kernel_rfl) (by kernel_rfl) (fun c a d v w h=>by cases d<;>exact h) ?_
  refine A0m (EqW wr.drew) (fun y hy=>hy) rfl ?_
  iterate 10
   refine A0i fun K hK=>tkX ?_
   go_simp
   try go_bits
   refine hK _ ?_;clear hK K
  refine A0i (fun K hK=> ?_);simp only[A2c,List.getElem?_toArray,List.getElem?_cons_succ,List.getElem?_cons_zero];rw[if_pos (by rfl)];refine⟨Value.bool false,fun w' hS'=> ?_,?_⟩
  ·exact A8r (by rfl) (HNE.out w' _ _)
  go_simp;refine hK _ ?_;clear hK K;refine A0p (fun u hu=> ?_);obtain rfl:u=wr.drew:=hu;clear l0 m0 l1 m1 l2 m2 l3 m3 l4 m4 l5 m5 l6 m6 n0 n1 HNE hSw
  go_wp2_with fail
  go_roundg (cn-(j+1))
  case measure=>omega
  exact⟨j+1,by omega,rfl,by go_num,hzz HB.out.drew⟩
 obtain rfl:cn=j:=by omega
 have HT1':=hzz (A0e HT1.out HB.out);have HT2':=hzz (A0e HT2.out HB.out);clear HB HB0 HT1 HT2;have k7:=A0a HT1'.out 6 rfl;dsimp at k7
 go_wp2_with fail
 clear k7;obtain⟨W8,hW8⟩:=exz (wr);subst hW8
 go_loopg [89] tn (fun gn i wr=>∃j:Nat,j<=tn/\gn=tn-j/\i= .int .i64 j/\Hid (Below W8.heap.size W8 wr))
 case atStart=>exact⟨0,by omega,by omega,by go_num,hzz brz⟩
 obtain⟨j,hj,rfl,rfl,HB⟩:=hrel;have HWC:=btz HWB HB.out;by_cases hlt:j<tn
 ·skip
  obtain⟨b1,off1,x,rfl,_,hv,p⟩:=Ss.getC (HX.out.traps.below HWC.out) j hlt;obtain⟨b2,off2,y,rfl,_,hv2,q⟩:=Ss.getC (HY.out.traps.below HWC.out) j hlt
  obtain rfl:x=y:=by rw[hv]at hv2;exact Option.some.inj hv2
  obtain⟨fr,tt,pl,cl⟩:=x;have p0:wr.cell? ⟨b1,off1+j*4,none⟩=some (.int .i64 fr):=p 0 (by omega);have p1:wr.cell? ⟨b1,off1+j*4+1,none⟩=some (.int .i64 tt):=p 1 (by omega)
  have p2:wr.cell? ⟨b1,off1+j*4+2,none⟩=some (.int .i64 pl):=p 2 (by omega);have p3:wr.cell? ⟨b1,off1+j*4+3,none⟩=some (.string ⟨cl.toArray⟩):=p 3 (by omega)
  have q0:wr.cell? ⟨b2,off2+j*4,none⟩=some (.int .i64 fr):=q 0 (by omega);have q1:wr.cell? ⟨b2,off2+j*4+1,none⟩=some (.int .i64 tt):=q 1 (by omega)
  have q2:wr.cell? ⟨b2,off2+j*4+2,none⟩=some (.int .i64 pl):=q 2 (by omega);have q3:wr.cell? ⟨b2,off2+j*4+3,none⟩=some (.string ⟨cl.toArray⟩):=q 3 (by omega)
  have k6:=A0a (A0e HT1'.out HB.out) 6 rfl;have j6:=A0a (A0e HT2'.out HB.out) 6 rfl;dsimp at k6 j6;clear p q hv hv2;have hj1:(j:Int)<tn:=by omega
  go_upto_region 12 with fail
  have hSw:EqW wr.drew wr.drew:=rfl;have l0:=fun u (h:EqW wr.drew u)=>A1a h p0
  have m0:=fun u (h:EqW wr.drew u)=>A1a h q0
  have l1:=fun u (h:EqW wr.drew u)=>A1a h p1
  have m1:=fun u (h:EqW wr.drew u)=>A1a h q1
  have l2:=fun u (h:EqW wr.drew u)=>A1a h p2
  have m2:=fun u (h:EqW wr.drew u)=>A1a h q2
  have l3:=fun u (h:EqW wr.drew u)=>A1a h p3
  have m3:=fun u (h:EqW wr.drew u)=>A1a h q3
  have n0:=fun u (h:EqW wr.drew u)=>A1a h k6
  have n1:=fun u (h:EqW wr.drew u)=>A1a h j6
  have HNE:=hzz (fun u o1 o2=>C6b u fr tt pl cl o1 o2);clear p0 q0 p1 q1 p2 q2 p3 q3 k6 j6
  refine A0h (EqW wr.drew) (.stir [(0,true),(1,true),(2,true),(3,true),(4,true),(5,true),(6,true),(7,true),(8,true),(9,true),(10,true)]) (by kernel_rfl) (by kernel_rfl) (fun c a d v w h=>by cases d<;>exact h) ?_
  refine A0m (EqW wr.drew) (fun y hy=>hy) rfl ?_
  iterate 10
   refine A0i fun K hK=>tkX ?_
   go_simp
   try go_bits
   refine hK _ ?_;clear hK K
  refine A0i (fun K hK=> ?_);simp only[A2c,List.getElem?_toArray,List.getElem?_cons_succ,List.getElem?_cons_zero];rw[if_pos (by rfl)];refine⟨Value.bool false,fun w' hS'=> ?_,?_⟩
  ·exact A8r (by rfl) (HNE.out w' _ _)
  go_simp;refine hK _ ?_;clear hK K;refine A0p (fun u hu=> ?_);obtain rfl:u=wr.drew:=hu;clear l0 m0 l1 m1 l2 m2 l3 m3 n0 n1 HNE hSw
  go_wp2_with fail
  go_roundg (tn-(j+1))
  case measure=>omega
  exact⟨j+1,by omega,rfl,by go_num,hzz HB.out.drew⟩
 obtain rfl:tn=j:=by omega
 have HT3:=hzz (A0e HT1'.out HB.out);have HT4:=hzz (A0e HT2'.out HB.out);clear HB HWB HT1' HT2';have k7:=A0a HT3.out 7 rfl;dsimp at k7
 go_wp2_with fail
 clear k7;obtain⟨W9,hW9⟩:=exz (wr);subst hW9
 go_loopg [107] nn (fun gn i wx=>∃j:Nat,j<=nn/\gn=nn-j/\i= .int .i64 j/\Hid (Below W9.heap.size W9 wx))
 case atStart=>exact⟨0,by omega,by omega,by go_num,hzz brz⟩
 obtain⟨j,hj,rfl,rfl,HB⟩:=hrel;have HWD:=btz HWC HB.out;by_cases hlt:j<nn
 ·obtain⟨b1,off1,x,rfl,_,hv,p⟩:=Ss.getC (HX.out.maps.below HWD.out) j hlt;obtain⟨b2,off2,y,rfl,_,hv2,q⟩:=Ss.getC (HY.out.maps.below HWD.out) j hlt;have hpp:=D4n HPM.out hv hv2
  have hxr:=HX.out.each x (List.mem_of_getElem? hv);have hyr:=HY.out.each y (List.mem_of_getElem? hv2);have hx4:=HB4.out x (List.mem_of_getElem? hv);have s1:=hxr.loc.1;have s2:=hxr.stk.1
  have s3:=hyr.loc.1;have s4:=hyr.stk.1;obtain⟨pl,la,ln,lc,loc,sa,sn,sc,stk⟩:=x;obtain⟨pl2,la2,ln2,lc2,loc2,sa2,sn2,sc2,stk2⟩:=y;simp only[UP.p,UP.mk.injEq]at hpp
  obtain⟨rfl,-,-,-,rfl,-,-,-,rfl⟩:=hpp;dsimp only at s1 s2 s3 s4 hx4;obtain rfl:ln=ln2:=by omega
  obtain rfl:sn=sn2:=by omega
  have HC1:=hzz (fun w' (hb:Below w.heap.size w w')=>B1c w' la ln lc la2 lc2 loc (hxr.loc.below hb) (hyr.loc.below hb) hx4.1)
  have HC2:=hzz (fun w' (hb:Below w.heap.size w w')=>B1c w' sa sn sc sa2 sc2 stk (hxr.stk.below hb) (hyr.stk.below hb) hx4.2)
  have p0:wr.cell? ⟨b1,off1+j*3,none⟩=some (.int .i64 pl):=p 0 (by omega);have p1:wr.cell? ⟨b1,off1+j*3+1,none⟩=some (.slice la ln lc):=p 1 (by omega)
  have p2:wr.cell? ⟨b1,off1+j*3+2,none⟩=some (.slice sa sn sc):=p 2 (by omega);have q0:wr.cell? ⟨b2,off2+j*3,none⟩=some (.int .i64 pl):=q 0 (by omega)
  have q1:wr.cell? ⟨b2,off2+j*3+1,none⟩=some (.slice la2 ln lc2):=q 1 (by omega);have q2:wr.cell? ⟨b2,off2+j*3+2,none⟩=some (.slice sa2 sn sc2):=q 2 (by omega)
  have k7:=A0a (A0e HT3.out HB.out) 7 rfl;have j7:=A0a (A0e HT4.out HB.out) 7 rfl;dsimp at k7 j7;clear p q hv hv2 s1 s2 s3 s4 hx4 hxr hyr;have hj1:(j:Int)<nn:=by omega
  have ep:(pl !=pl)=false:=by simp
  go_upto_region 18 with fail
  have hSw:Below wr.heap.size wr wr.drew:=brz.drew;have l0:=fun u (h:Below wr.heap.size wr u)=>A0c h p0
  have l1:=fun u (h:Below wr.heap.size wr u)=>A0c h p1
  have l2:=fun u (h:Below wr.heap.size wr u)=>A0c h p2
  have m0:=fun u (h:Below wr.heap.size wr u)=>A0c h q0
  have m1:=fun u (h:Below wr.heap.size wr u)=>A0c h q1
  have m2:=fun u (h:Below wr.heap.size wr u)=>A0c h q2
  have n0:=fun u (h:Below wr.heap.size wr u)=>A0c h k7
  have n1:=fun u (h:Below wr.heap.size wr u)=>A0c h j7
  have HD1:=hzz (fun u (h:Below wr.heap.size wr u)=>HC1.out u (HWD.out.trans (h.mono HWD.out.size)));have HD2:=hzz (fun u (h:Below wr.heap.size wr u)=>HC2.out u (HWD.out.trans (h.mono HWD.out.size)))
  clear p0 p1 p2 q0 q1 q2 k7 j7 HC1 HC2
  refine A0h (Below wr.heap.size wr) (.stir [(0,true),(1,true),(2,true),(3,true),(4,true),(5,true),(6,true),(7,true),(8,true),(9,true),(10,true),(11,true),(12,true),(13,true),(14,true),(15,true),(16,true),(17,true),(18,true),(19,true),(20,true),(21,true),(22,true),(23,true),(24,true),(25,true),(26,false),(27,true),(28,true),(29,true),(30,true),(31,true),(32,true),(33,true),(34,true),(35,true),(36,true),(37,true),(38,true),(39,true),(40,true),(41,true),(42,false),(43,true),(44,true)]) (by kernel_rfl) (by kernel_rfl) (fun c a d v w h=>by cases d<;>exact h) ?_
  refine A0m (Below wr.heap.size wr) (fun y hy=>hy) hSw ?_
  iterate 26
   refine A0i fun K hK=>tkX ?_
   go_simp
   try go_bits
   refine hK _ ?_;clear hK K
  refine A0i (fun K hK=> ?_);simp only[A2c,List.getElem?_toArray,List.getElem?_cons_succ,List.getElem?_cons_zero];rw[if_pos (by rfl)];apply Exists.intro;refine⟨fun w' hS'=> ?_,?_⟩
  ·go_simp;exact A4j.call (Calls.mono ((HD1.out w' hS')) fun e w'' h=>⟨h.1,(fun hb''=>hS'.trans (hb''.mono hS'.size)) h.2⟩)
  go_simp;refine hK _ ?_;clear hK K
  iterate 15
   refine A0i fun K hK=>tkX ?_
   go_simp
   try go_bits
   refine hK _ ?_;clear hK K
  refine A0i (fun K hK=> ?_);simp only[A2c,List.getElem?_toArray,List.getElem?_cons_succ,List.getElem?_cons_zero];rw[if_pos (by rfl)];apply Exists.intro;refine⟨fun w' hS'=> ?_,?_⟩
  ·go_simp;exact A4j.call (Calls.mono ((HD2.out w' hS')) fun e w'' h=>⟨h.1,(fun hb''=>hS'.trans (hb''.mono hS'.size)) h.2⟩)
  go_simp;refine hK _ ?_;clear hK K
  iterate 2
   refine A0i fun K hK=>tkX ?_
   go_simp
   try go_bits
   refine hK _ ?_;clear hK K
  refine A0p (fun u hu=> ?_);clear l0 l1 l2 m0 m1 m2 n0 n1 HD1 HD2 hSw
  go_wp2_with fail
  go_roundg (nn-(j+1))
  case measure=>omega
  exact⟨j+1,by omega,rfl,by go_num,btz HB hu⟩
 obtain rfl:nn=j:=by omega
 go_wp2_with fail
 go_ret;exact⟨rfl,HWD.out⟩
theorem UM.Fit.rows{m:UM}{w:World}(hf:m.Fit)(hr:m.Rd w):∀p∈m.maps,p.ln<=1000000000/\p.sn<=1000000000:=by
 intro p hp;have h1:=(hr.each p hp).loc.1;have h2:=(hr.each p hp).stk.1;have h3:=(hf.mp p hp).loc;have h4:=(hf.mp p hp).stk;omega
theorem B8y(w:World)(x y:UU)(hx:x.Rd w)(hy:y.Rd w)(hp:x.p=y.p)(hb:x.Fit):
  Calls Tryz.prog 12 #[.agg x.cells.toArray,.agg y.cells.toArray] w (A4p true w):=by
 have HX:=hzz hx;have HY:=hzz hy;have hfn:=hb.fields;have hmn:=hb.methods;have HBE:=hzz hb.mt;have l2:=hx.fields.1;have l3:=hx.methods.1;have r2:=hy.fields.1;have r3:=hy.methods.1
 clear hx hy hb;obtain⟨nm,su,fa,fn,fc,fields,ma,mn,mc,methods⟩:=x;obtain⟨nm2,su2,fa2,fn2,fc2,fields2,ma2,mn2,mc2,methods2⟩:=y;simp only[UU.p,UU.mk.injEq]at hp
 obtain⟨rfl,rfl,-,-,-,rfl,-,-,-,hpm⟩:=hp;dsimp only at*;have l4:=congrArg List.length hpm;rw[List.length_map,List.length_map]at l4;obtain rfl:fn=fn2:=by omega
 obtain rfl:mn=mn2:=by omega
 have hfn':fn<=1024:=by omega
 have hmn':mn<=1024:=by omega
 have HPM:=hzz hpm;unfold UU.cells;dsimp only;clear l2 l3 r2 r3 l4 hpm hfn hmn
 have hal1:Below w.heap.size w (w.alloc (.cells #[.string ⟨nm.toArray⟩,.string ⟨su.toArray⟩,.slice fa fn fc,.slice ma mn mc] 32)):=A0f _ _
 have hal2:=A0f (w.alloc (.cells #[.string ⟨nm.toArray⟩,.string ⟨su.toArray⟩,.slice fa fn fc,.slice ma mn mc] 32)) (.cells #[.string ⟨nm.toArray⟩,.string ⟨su.toArray⟩,.slice fa2 fn fc2,.slice ma2 mn mc2] 32)
 have HT1:=hzz (A0e (heap_alloc_last w (.cells #[.string ⟨nm.toArray⟩,.string ⟨su.toArray⟩,.slice fa fn fc,.slice ma mn mc] 32)) hal2)
 have HT2:=heap_alloc_last (w.alloc (.cells #[.string ⟨nm.toArray⟩,.string ⟨su.toArray⟩,.slice fa fn fc,.slice ma mn mc] 32)) (.cells #[.string ⟨nm.toArray⟩,.string ⟨su.toArray⟩,.slice fa2 fn fc2,.slice ma2 mn mc2] 32)
 rw[show(w.alloc (.cells #[.string ⟨nm.toArray⟩,.string ⟨su.toArray⟩,.slice fa fn fc,.slice ma mn mc] 32)).heap.size=w.heap.size+1 by simp]at HT2;replace HT2:=hzz HT2
 have HB0:=hzz (hal1.trans (hal2.mono hal1.size));clear hal1 hal2;go_enter Tryz.func12,Tryz.ntmps12
 go_upto_region 1 with fail
 generalize(w.alloc (.cells #[.string ⟨nm.toArray⟩,.string ⟨su.toArray⟩,.slice fa fn fc,.slice ma mn mc] 32)).alloc (.cells #[.string ⟨nm.toArray⟩,.string ⟨su.toArray⟩,.slice fa2 fn fc2,.slice ma2 mn mc2] 32)=W0 at*
 obtain⟨u1,hu1⟩:∃b,b=w.heap.size:=⟨_,rfl⟩;obtain⟨u2,hu2⟩:∃b,b=w.heap.size+1:=⟨_,rfl⟩;rw[<-hu1]at HT1;rw[<-hu2]at HT2;rw[<-hu2,<-hu1];clear hu1 hu2
 go_cut [36] (fun r wx=>r= .bool false/\wx=W0)
 case first=>
  have k0:=A0a HT1.out 0 rfl;have j0:=A0a HT2.out 0 rfl;have k1:=A0a HT1.out 1 rfl;have j1:=A0a HT2.out 1 rfl;have k2:=A0a HT1.out 2 rfl;have j2:=A0a HT2.out 2 rfl
  have k3:=A0a HT1.out 3 rfl;have j3:=A0a HT2.out 3 rfl;dsimp at k0 j0 k1 j1 k2 j2 k3 j3;have e1:=A9e nm;have e2:=A9e su;have e3:((fn:Int) !=(fn:Int))=false:=by simp
  have e4:((mn:Int) !=(mn:Int))=false:=by simp
  go_wp2_with fail
  go_meet;exact⟨by simp,rfl⟩
 obtain⟨rfl,rfl⟩:=hcut;have k2:=A0a HT1.out 2 rfl;dsimp at k2
 go_wp2_with fail
 clear k2
 go_loopg [40] fn (fun gn i wr=>∃j:Nat,j<=fn/\gn=fn-j/\i= .int .i64 j/\Hid (Below wc.heap.size wc wr))
 case atStart=>exact⟨0,by omega,by omega,by go_num,hzz brz⟩
 obtain⟨j,hj,rfl,rfl,HB⟩:=hrel;have HWB:=btz HB0 HB.out;by_cases hlt:j<fn
 ·skip
  obtain⟨b1,off1,x,rfl,_,hv,p⟩:=Ss.getC (HX.out.fields.below HWB.out) j hlt;obtain⟨b2,off2,y,rfl,_,hv2,q⟩:=Ss.getC (HY.out.fields.below HWB.out) j hlt
  obtain rfl:x=y:=by rw[hv]at hv2;exact Option.some.inj hv2
  obtain⟨fl,nx,dx⟩:=x;have p0:wr.cell? ⟨b1,off1+j*3,none⟩=some (.bool fl):=p 0 (by omega);have p1:wr.cell? ⟨b1,off1+j*3+1,none⟩=some (.string ⟨nx.toArray⟩):=p 1 (by omega)
  have p2:wr.cell? ⟨b1,off1+j*3+2,none⟩=some (.string ⟨dx.toArray⟩):=p 2 (by omega);have q0:wr.cell? ⟨b2,off2+j*3,none⟩=some (.bool fl):=q 0 (by omega)
  have q1:wr.cell? ⟨b2,off2+j*3+1,none⟩=some (.string ⟨nx.toArray⟩):=q 1 (by omega);have q2:wr.cell? ⟨b2,off2+j*3+2,none⟩=some (.string ⟨dx.toArray⟩):=q 2 (by omega)
  have k6:=A0a (A0e HT1.out HB.out) 2 rfl;have j6:=A0a (A0e HT2.out HB.out) 2 rfl;dsimp at k6 j6;clear p q hv hv2;have hj1:(j:Int)<fn:=by omega
  go_upto_region 6 with fail
  have hSw:EqW wr.drew wr.drew:=rfl;have l0:=fun u (h:EqW wr.drew u)=>A1a h p0
  have m0:=fun u (h:EqW wr.drew u)=>A1a h q0
  have l1:=fun u (h:EqW wr.drew u)=>A1a h p1
  have m1:=fun u (h:EqW wr.drew u)=>A1a h q1
  have l2:=fun u (h:EqW wr.drew u)=>A1a h p2
  have m2:=fun u (h:EqW wr.drew u)=>A1a h q2
  have n0:=fun u (h:EqW wr.drew u)=>A1a h k6
  have n1:=fun u (h:EqW wr.drew u)=>A1a h j6
  have HNE:=hzz (fun u o1 o2=>C2y u fl nx dx o1 o2);clear p0 q0 p1 q1 p2 q2 k6 j6
  refine A0h (EqW wr.drew) (.stir [(0,true),(1,true),(2,true),(3,true),(4,true),(5,true),(6,true),(7,true),(8,true),(9,true),(10,true)]) (by kernel_rfl) (by kernel_rfl) (fun c a d v w h=>by cases d<;>exact h) ?_
  refine A0m (EqW wr.drew) (fun y hy=>hy) rfl ?_
  iterate 10
   refine A0i fun K hK=>tkX ?_
   go_simp
   try go_bits
   refine hK _ ?_;clear hK K
  refine A0i (fun K hK=> ?_);simp only[A2c,List.getElem?_toArray,List.getElem?_cons_succ,List.getElem?_cons_zero];rw[if_pos (by rfl)];refine⟨Value.bool false,fun w' hS'=> ?_,?_⟩
  ·exact A8r (by rfl) (HNE.out w' _ _)
  go_simp;refine hK _ ?_;clear hK K;refine A0p (fun u hu=> ?_);obtain rfl:u=wr.drew:=hu;clear l0 m0 l1 m1 l2 m2 n0 n1 HNE hSw
  go_wp2_with fail
  go_roundg (fn-(j+1))
  case measure=>omega
  exact⟨j+1,by omega,rfl,by go_num,hzz HB.out.drew⟩
 obtain rfl:fn=j:=by omega
 have HT1':=hzz (A0e HT1.out HB.out);have HT2':=hzz (A0e HT2.out HB.out);clear HB HB0 HT1 HT2;have k7:=A0a HT1'.out 3 rfl;dsimp at k7
 go_wp2_with fail
 clear k7;obtain⟨W8,hW8⟩:=exz (wr);subst hW8
 go_loopg [58] mn (fun gn i wr=>∃j:Nat,j<=mn/\gn=mn-j/\i= .int .i64 j/\Hid (Below W8.heap.size W8 wr))
 case atStart=>exact⟨0,by omega,by omega,by go_num,hzz brz⟩
 obtain⟨j,hj,rfl,rfl,HB⟩:=hrel;have HWC:=btz HWB HB.out;by_cases hlt:j<mn
 ·obtain⟨b1,off1,x,rfl,_,hv,p⟩:=Ss.getC (HX.out.methods.below HWC.out) j hlt;obtain⟨b2,off2,y,rfl,_,hv2,q⟩:=Ss.getC (HY.out.methods.below HWC.out) j hlt;have hpp:=D4n HPM.out hv hv2
  have hxr:=HX.out.each x (List.mem_of_getElem? hv);have hyr:=HY.out.each y (List.mem_of_getElem? hv2);have hx4:=HBE.out x (List.mem_of_getElem? hv)
  have HCM:=hzz (fun w' (h:Below w.heap.size w w')=>B7n w' x y (hxr.below h) (hyr.below h) hpp hx4 (hx4.rows hxr));clear hpp hxr hyr hx4
  obtain⟨st,nx,dx,sk,lo,ca,cn,cc,code,ta,tn,tc,traps,na,nn,nc,maps⟩:=x;obtain⟨st2,nx2,dx2,sk2,lo2,ca2,cn2,cc2,code2,ta2,tn2,tc2,traps2,na2,nn2,nc2,maps2⟩:=y
  dsimp only[UM.cells]at HCM;have p0:wr.cell? ⟨b1,off1+j*8,none⟩=some (.bool st):=p 0 (by omega);have p1:wr.cell? ⟨b1,off1+j*8+1,none⟩=some (.string ⟨nx.toArray⟩):=p 1 (by omega)
  have p2:wr.cell? ⟨b1,off1+j*8+2,none⟩=some (.string ⟨dx.toArray⟩):=p 2 (by omega);have p3:wr.cell? ⟨b1,off1+j*8+3,none⟩=some (.int .i64 sk):=p 3 (by omega)
  have p4:wr.cell? ⟨b1,off1+j*8+4,none⟩=some (.int .i64 lo):=p 4 (by omega);have p5:wr.cell? ⟨b1,off1+j*8+5,none⟩=some (.slice ca cn cc):=p 5 (by omega)
  have p6:wr.cell? ⟨b1,off1+j*8+6,none⟩=some (.slice ta tn tc):=p 6 (by omega);have p7:wr.cell? ⟨b1,off1+j*8+7,none⟩=some (.slice na nn nc):=p 7 (by omega)
  have q0:wr.cell? ⟨b2,off2+j*8,none⟩=some (.bool st2):=q 0 (by omega);have q1:wr.cell? ⟨b2,off2+j*8+1,none⟩=some (.string ⟨nx2.toArray⟩):=q 1 (by omega)
  have q2:wr.cell? ⟨b2,off2+j*8+2,none⟩=some (.string ⟨dx2.toArray⟩):=q 2 (by omega);have q3:wr.cell? ⟨b2,off2+j*8+3,none⟩=some (.int .i64 sk2):=q 3 (by omega)
  have q4:wr.cell? ⟨b2,off2+j*8+4,none⟩=some (.int .i64 lo2):=q 4 (by omega);have q5:wr.cell? ⟨b2,off2+j*8+5,none⟩=some (.slice ca2 cn2 cc2):=q 5 (by omega)
  have q6:wr.cell? ⟨b2,off2+j*8+6,none⟩=some (.slice ta2 tn2 tc2):=q 6 (by omega);have q7:wr.cell? ⟨b2,off2+j*8+7,none⟩=some (.slice na2 nn2 nc2):=q 7 (by omega)
  have k3:=A0a (A0e HT1'.out HB.out) 3 rfl;have j3:=A0a (A0e HT2'.out HB.out) 3 rfl;dsimp at k3 j3;clear p q hv hv2;have hj1:(j:Int)<mn:=by omega
  go_upto_region 12 with fail
  have hSw:Below wr.heap.size wr wr.drew:=brz.drew;have l0:=fun u (h:Below wr.heap.size wr u)=>A0c h p0
  have m0:=fun u (h:Below wr.heap.size wr u)=>A0c h q0
  have l1:=fun u (h:Below wr.heap.size wr u)=>A0c h p1
  have m1:=fun u (h:Below wr.heap.size wr u)=>A0c h q1
  have l2:=fun u (h:Below wr.heap.size wr u)=>A0c h p2
  have m2:=fun u (h:Below wr.heap.size wr u)=>A0c h q2
  have l3:=fun u (h:Below wr.heap.size wr u)=>A0c h p3
  have m3:=fun u (h:Below wr.heap.size wr u)=>A0c h q3
  have l4:=fun u (h:Below wr.heap.size wr u)=>A0c h p4
  have m4:=fun u (h:Below wr.heap.size wr u)=>A0c h q4
  have l5:=fun u (h:Below wr.heap.size wr u)=>A0c h p5
  have m5:=fun u (h:Below wr.heap.size wr u)=>A0c h q5
  have l6:=fun u (h:Below wr.heap.size wr u)=>A0c h p6
  have m6:=fun u (h:Below wr.heap.size wr u)=>A0c h q6
  have l7:=fun u (h:Below wr.heap.size wr u)=>A0c h p7
  have m7:=fun u (h:Below wr.heap.size wr u)=>A0c h q7
  have n0:=fun u (h:Below wr.heap.size wr u)=>A0c h k3
  have n1:=fun u (h:Below wr.heap.size wr u)=>A0c h j3
  have HD:=hzz (fun u (h:Below wr.heap.size wr u)=>HCM.out u (HWC.out.trans (h.mono HWC.out.size)));clear k3 j3 HCM p0 q0 p1 q1 p2 q2 p3 q3 p4 q4 p5 q5 p6 q6 p7 q7
  refine A0h (Below wr.heap.size wr) (.stir [(0,true),(1,true),(2,true),(3,true),(4,true),(5,true),(6,true),(7,true),(8,true),(9,true),(10,false),(11,true)]) (by kernel_rfl) (by kernel_rfl) (fun c a d v w h=>by cases d<;>exact h) ?_
  refine A0m (Below wr.heap.size wr) (fun y hy=>hy) hSw ?_
  iterate 10
   refine A0i fun K hK=>tkX ?_
   go_simp
   try go_bits
   refine hK _ ?_;clear hK K
  refine A0i (fun K hK=> ?_);simp only[A2c,List.getElem?_toArray,List.getElem?_cons_succ,List.getElem?_cons_zero];rw[if_pos (by rfl)];apply Exists.intro;refine⟨fun w' hS'=> ?_,?_⟩
  ·go_simp;exact A4j.call (Calls.mono ((HD.out w' hS')) fun e w'' h=>⟨h.1,(fun hb''=>hS'.trans (hb''.mono hS'.size)) h.2⟩)
  go_simp;refine hK _ ?_;clear hK K
  iterate 1
   refine A0i fun K hK=>tkX ?_
   go_simp
   try go_bits
   refine hK _ ?_;clear hK K
  refine A0p (fun u hu=> ?_);clear HD hSw n0 n1 l0 m0 l1 m1 l2 m2 l3 m3 l4 m4 l5 m5 l6 m6 l7 m7
  go_wp2_with fail
  go_roundg (mn-(j+1))
  case measure=>omega
  exact⟨j+1,by omega,rfl,by go_num,btz HB hu⟩
 obtain rfl:mn=j:=by omega
 go_wp2_with fail
 go_ret;exact⟨rfl,HWC.out⟩
def fxI:List IN:=[⟨167,1,0,[],[],[],[]⟩,⟨177,0,0,[],[],[],[]⟩]
def fxM(ca:Option Addr)(cc:Nat):UM:=⟨true,[103,111],[40,41,86],0,0,ca,2,cc,fxI,none,0,0,[],none,0,0,[]⟩
def fxF:UF:=⟨false,[120],[73]⟩
def fxU(fa ma ca:Option Addr)(fc mc cc:Nat):UU:=⟨[97,47,66],[],fa,1,fc,[fxF],ma,1,mc,[fxM ca cc]⟩
theorem D9h(fa ma ca:Option Addr)(fc mc cc:Nat):C5q (fxU fa ma ca fc mc cc)=0:=by kernel_rfl
theorem D6v(fa ma ca:Option Addr)(fc mc cc:Nat):(A9x (fxU fa ma ca fc mc cc)).2=(A9x (fxU none none none 0 0 0)).2:=by kernel_rfl
theorem D9z:C5q u0=8:=by kernel_rfl
def fxL:KF:=(A9x (fxU none none none 0 0 0)).2
def fxK:KM:=(fxL.methods.head?).getD ⟨0,0,0,0,0,none,0,0,[],none,0,0,[],none,0,0,[]⟩
theorem C2r:fxL.methods=[fxK]:=by kernel_rfl
theorem D2s:fxK.maps=[]:=by kernel_rfl
theorem E2n(pa fa ma ca ta na:Option Addr)(pn pc fn fc mn mc cn cc tn tc nn nc:Nat):B6t ⟨pa,pn,pc,fxL.pool,fxL.th,fxL.su,fa,fn,fc,fxL.fields,ma,mn,mc,[⟨fxK.fl,fxK.nm,fxK.ds,fxK.st,fxK.lo,ca,cn,cc,fxK.code,ta,tn,tc,fxK.traps,na,nn,nc,[]⟩]⟩=true:=by kernel_rfl
theorem E2b(pa fa ma ca ta na:Option Addr)(pn pc fn fc mn mc cn cc tn tc nn nc:Nat):C0w ⟨pa,pn,pc,fxL.pool,fxL.th,fxL.su,fa,fn,fc,fxL.fields,ma,mn,mc,[⟨fxK.fl,fxK.nm,fxK.ds,fxK.st,fxK.lo,ca,cn,cc,fxK.code,ta,tn,tc,fxK.traps,na,nn,nc,[]⟩]⟩=(fxU none none none 0 0 0).p:=by kernel_rfl
theorem D7p(x:KF)(h:x.lp=fxL):B6t x=true/\C0w x=(fxU none none none 0 0 0).p:=by
 obtain⟨pa,pn,pc,pool,th,su,fa,fn,fc,fields,ma,mn,mc,methods⟩:=x;unfold KF.lp at h;dsimp only at h;have h1:pool=fxL.pool:=congrArg KF.pool h;have h2:th=fxL.th:=congrArg KF.th h
 have h3:su=fxL.su:=congrArg KF.su h;have h4:fields=fxL.fields:=congrArg KF.fields h;have h5:methods.map KM.lp=[fxK]:=(congrArg KF.methods h).trans C2r;have hl:=congrArg List.length h5
 rw[List.length_map]at hl;obtain⟨m,rfl⟩:=List.length_eq_one_iff.1 hl;have h6:m.lp=fxK:=by simpa using h5
 obtain⟨fl,nm,ds,st,lo,ca,cn,cc,code,ta,tn,tc,traps,na,nn,nc,maps⟩:=m;unfold KM.lp at h6;dsimp only at h6;have e1:fl=fxK.fl:=congrArg KM.fl h6;have e2:nm=fxK.nm:=congrArg KM.nm h6
 have e3:ds=fxK.ds:=congrArg KM.ds h6;have e4:st=fxK.st:=congrArg KM.st h6;have e5:lo=fxK.lo:=congrArg KM.lo h6;have e6:code=fxK.code:=congrArg KM.code h6
 have e7:traps=fxK.traps:=congrArg KM.traps h6;have e8:maps.map KP.lp=[]:=(congrArg KM.maps h6).trans D2s;obtain rfl:maps=[]:=List.map_eq_nil_iff.1 e8;subst h1 h2 h3 h4 e1 e2 e3 e4 e5 e6 e7
 exact⟨E2n ..,E2b ..⟩
theorem D1c(fa ma ca:Option Addr)(fc mc cc:Nat):(fxU fa ma ca fc mc cc).Fit:=by
 refine⟨by simp[fxU],by simp[fxU],by simp[fxU],fun f hf=> ?_,by simp[fxU],fun m hm=> ?_⟩
 ·obtain rfl:f=fxF:=by simpa[fxU]using hf
  simp[fxF]
 obtain rfl:m=fxM ca cc:=by simpa[fxU]using hm
 refine⟨by simp[fxM],by simp[fxM],by simp[fxM,fxI],fun x hx=> ?_,by simp[fxM],fun t ht=>by simp[fxM]at ht,by simp[fxM],fun p hp=>by simp[fxM]at hp⟩
 have:x=⟨167,1,0,[],[],[],[]⟩\/x=⟨177,0,0,[],[],[],[]⟩:=by simpa[fxM,fxI]using hx
 rcases this with rfl|rfl
 ·exact⟨by decide,by constructor<;>decide,by constructor<;>decide,by simp,by simp,by simp,by simp⟩
 exact⟨by decide,by constructor<;>decide,by constructor<;>decide,by simp,by simp,by simp,by simp⟩
theorem E0q:u0.Fit:=⟨by simp[u0],by simp[u0],by simp[u0],fun f hf=>by simp[u0]at hf,by simp[u0],fun f hf=>by simp[u0]at hf⟩
theorem E1v(w:World):u0.Rd w:=⟨Ss.nil _ _,Ss.nil _ _,fun m hm=>by cases hm⟩
def zf:KF:=⟨none,0,0,[],0,0,none,0,0,[],none,0,0,[]⟩
theorem E0j(w:World):zf.Rd w:=⟨Ss.nil _ _,Ss.nil _ _,Ss.nil _ _,fun m hm=>by cases hm⟩
theorem D4u:zf.Fit:=⟨by decide,fun i hi=>by simp[zf]at hi,by decide,by decide,fun d hd=>by simp[zf]at hd,fun d hd=>by simp[zf]at hd⟩
theorem E1s:A2r zf=false:=by kernel_rfl
theorem B4p{f:KF}{w:World}(hr:f.Rd w)(hf:f.Fit)(i:Int):(kAt f.pool i).s.length<=65536:=by
 have hl:=hr.pool.1;by_cases h:0<=i/\i<f.pn
 ·obtain⟨k,rfl⟩:=Int.eq_ofNat_of_zero_le h.1;exact hf.ps k (by omega)
 unfold kAt;by_cases h2:i.toNat<f.pool.length
 ·by_cases h3:0<=i
  ·omega
  have h4:=hf.ps 0 (by omega);unfold kAt at h4;rw[show i.toNat=0 by omega];exact h4
 rw[List.getD_eq_getElem?_getD,List.getElem?_eq_none (by omega)];simp[kz]
theorem D0s(w:World)(hv:VW w):Calls Tryz.prog 8 #[] w (fun e w'=>e= .returned (.bool true)/\Below w.heap.size w w'):=by
 have hs1:(w.alloc (.cells #[.bool false,.string ⟨#[120]⟩,.string ⟨#[73]⟩] 52)).heap.size=w.heap.size+1:=by simp
 have hs2:((w.alloc (.cells #[.bool false,.string ⟨#[120]⟩,.string ⟨#[73]⟩] 52)).alloc (.cells #[.int .u8 167,.int .i64 1,.int .i64 0,.string ⟨#[]⟩,.string ⟨#[]⟩,.string ⟨#[]⟩,.string ⟨#[]⟩,.int .u8 177,.int .i64 0,.int .i64 0,.string ⟨#[]⟩,.string ⟨#[]⟩,.string ⟨#[]⟩,.string ⟨#[]⟩] A2e)).heap.size=w.heap.size+1+1:=by simp
 have hs3:(((w.alloc (.cells #[.bool false,.string ⟨#[120]⟩,.string ⟨#[73]⟩] 52)).alloc (.cells #[.int .u8 167,.int .i64 1,.int .i64 0,.string ⟨#[]⟩,.string ⟨#[]⟩,.string ⟨#[]⟩,.string ⟨#[]⟩,.int .u8 177,.int .i64 0,.int .i64 0,.string ⟨#[]⟩,.string ⟨#[]⟩,.string ⟨#[]⟩,.string ⟨#[]⟩] A2e)).alloc (.cells #[.bool true,.string ⟨#[103,111]⟩,.string ⟨#[40,41,86]⟩,.int .i64 0,.int .i64 0,.slice (some ⟨w.heap.size+1,0,none⟩) 2 2,.slice none 0 0,.slice none 0 0] A1d)).heap.size=w.heap.size+1+1+1:=by simp
 have b1:Below w.heap.size w (w.alloc (.cells #[.bool false,.string ⟨#[120]⟩,.string ⟨#[73]⟩] 52)):=A0f _ _
 have b2:=A0f (w.alloc (.cells #[.bool false,.string ⟨#[120]⟩,.string ⟨#[73]⟩] 52)) (.cells #[.int .u8 167,.int .i64 1,.int .i64 0,.string ⟨#[]⟩,.string ⟨#[]⟩,.string ⟨#[]⟩,.string ⟨#[]⟩,.int .u8 177,.int .i64 0,.int .i64 0,.string ⟨#[]⟩,.string ⟨#[]⟩,.string ⟨#[]⟩,.string ⟨#[]⟩] A2e)
 have b3:=A0f ((w.alloc (.cells #[.bool false,.string ⟨#[120]⟩,.string ⟨#[73]⟩] 52)).alloc (.cells #[.int .u8 167,.int .i64 1,.int .i64 0,.string ⟨#[]⟩,.string ⟨#[]⟩,.string ⟨#[]⟩,.string ⟨#[]⟩,.int .u8 177,.int .i64 0,.int .i64 0,.string ⟨#[]⟩,.string ⟨#[]⟩,.string ⟨#[]⟩,.string ⟨#[]⟩] A2e)) (.cells #[.bool true,.string ⟨#[103,111]⟩,.string ⟨#[40,41,86]⟩,.int .i64 0,.int .i64 0,.slice (some ⟨w.heap.size+1,0,none⟩) 2 2,.slice none 0 0,.slice none 0 0] A1d)
 have b4:=A0f (((w.alloc (.cells #[.bool false,.string ⟨#[120]⟩,.string ⟨#[73]⟩] 52)).alloc (.cells #[.int .u8 167,.int .i64 1,.int .i64 0,.string ⟨#[]⟩,.string ⟨#[]⟩,.string ⟨#[]⟩,.string ⟨#[]⟩,.int .u8 177,.int .i64 0,.int .i64 0,.string ⟨#[]⟩,.string ⟨#[]⟩,.string ⟨#[]⟩,.string ⟨#[]⟩] A2e)).alloc (.cells #[.bool true,.string ⟨#[103,111]⟩,.string ⟨#[40,41,86]⟩,.int .i64 0,.int .i64 0,.slice (some ⟨w.heap.size+1,0,none⟩) 2 2,.slice none 0 0,.slice none 0 0] A1d)) (.cells #[.string ⟨#[97,47,66]⟩,.string ⟨#[]⟩,.slice (some ⟨w.heap.size,0,none⟩) 1 1,.slice (some ⟨w.heap.size+1+1,0,none⟩) 1 1] A4u)
 have r1:=A0e (A0e (A0e (heap_alloc_last w (.cells #[.bool false,.string ⟨#[120]⟩,.string ⟨#[73]⟩] 52)) b2) b3) b4
 have r2:=A0e (A0e (heap_alloc_last (w.alloc (.cells #[.bool false,.string ⟨#[120]⟩,.string ⟨#[73]⟩] 52)) (.cells #[.int .u8 167,.int .i64 1,.int .i64 0,.string ⟨#[]⟩,.string ⟨#[]⟩,.string ⟨#[]⟩,.string ⟨#[]⟩,.int .u8 177,.int .i64 0,.int .i64 0,.string ⟨#[]⟩,.string ⟨#[]⟩,.string ⟨#[]⟩,.string ⟨#[]⟩] A2e)) b3) b4
 have r3:=A0e (heap_alloc_last ((w.alloc (.cells #[.bool false,.string ⟨#[120]⟩,.string ⟨#[73]⟩] 52)).alloc (.cells #[.int .u8 167,.int .i64 1,.int .i64 0,.string ⟨#[]⟩,.string ⟨#[]⟩,.string ⟨#[]⟩,.string ⟨#[]⟩,.int .u8 177,.int .i64 0,.int .i64 0,.string ⟨#[]⟩,.string ⟨#[]⟩,.string ⟨#[]⟩,.string ⟨#[]⟩] A2e)) (.cells #[.bool true,.string ⟨#[103,111]⟩,.string ⟨#[40,41,86]⟩,.int .i64 0,.int .i64 0,.slice (some ⟨w.heap.size+1,0,none⟩) 2 2,.slice none 0 0,.slice none 0 0] A1d)) b4
 have r4:=heap_alloc_last (((w.alloc (.cells #[.bool false,.string ⟨#[120]⟩,.string ⟨#[73]⟩] 52)).alloc (.cells #[.int .u8 167,.int .i64 1,.int .i64 0,.string ⟨#[]⟩,.string ⟨#[]⟩,.string ⟨#[]⟩,.string ⟨#[]⟩,.int .u8 177,.int .i64 0,.int .i64 0,.string ⟨#[]⟩,.string ⟨#[]⟩,.string ⟨#[]⟩,.string ⟨#[]⟩] A2e)).alloc (.cells #[.bool true,.string ⟨#[103,111]⟩,.string ⟨#[40,41,86]⟩,.int .i64 0,.int .i64 0,.slice (some ⟨w.heap.size+1,0,none⟩) 2 2,.slice none 0 0,.slice none 0 0] A1d)) (.cells #[.string ⟨#[97,47,66]⟩,.string ⟨#[]⟩,.slice (some ⟨w.heap.size,0,none⟩) 1 1,.slice (some ⟨w.heap.size+1+1,0,none⟩) 1 1] A4u)
 rw[hs1]at r2;rw[hs2]at r3;rw[hs3]at r4
 have hB0:Below w.heap.size w ((((w.alloc (.cells #[.bool false,.string ⟨#[120]⟩,.string ⟨#[73]⟩] 52)).alloc (.cells #[.int .u8 167,.int .i64 1,.int .i64 0,.string ⟨#[]⟩,.string ⟨#[]⟩,.string ⟨#[]⟩,.string ⟨#[]⟩,.int .u8 177,.int .i64 0,.int .i64 0,.string ⟨#[]⟩,.string ⟨#[]⟩,.string ⟨#[]⟩,.string ⟨#[]⟩] A2e)).alloc (.cells #[.bool true,.string ⟨#[103,111]⟩,.string ⟨#[40,41,86]⟩,.int .i64 0,.int .i64 0,.slice (some ⟨w.heap.size+1,0,none⟩) 2 2,.slice none 0 0,.slice none 0 0] A1d)).alloc (.cells #[.string ⟨#[97,47,66]⟩,.string ⟨#[]⟩,.slice (some ⟨w.heap.size,0,none⟩) 1 1,.slice (some ⟨w.heap.size+1+1,0,none⟩) 1 1] A4u)):=((((Below.refl w.heap.size w).alloc nlz _).alloc (by simp) _).alloc (by simp;omega) _).alloc (by simp;omega) _
 have hrd:(fxU (some ⟨w.heap.size,0,none⟩) (some ⟨w.heap.size+1+1,0,none⟩) (some ⟨w.heap.size+1,0,none⟩) 1 1 2).Rd ((((w.alloc (.cells #[.bool false,.string ⟨#[120]⟩,.string ⟨#[73]⟩] 52)).alloc (.cells #[.int .u8 167,.int .i64 1,.int .i64 0,.string ⟨#[]⟩,.string ⟨#[]⟩,.string ⟨#[]⟩,.string ⟨#[]⟩,.int .u8 177,.int .i64 0,.int .i64 0,.string ⟨#[]⟩,.string ⟨#[]⟩,.string ⟨#[]⟩,.string ⟨#[]⟩] A2e)).alloc (.cells #[.bool true,.string ⟨#[103,111]⟩,.string ⟨#[40,41,86]⟩,.int .i64 0,.int .i64 0,.slice (some ⟨w.heap.size+1,0,none⟩) 2 2,.slice none 0 0,.slice none 0 0] A1d)).alloc (.cells #[.string ⟨#[97,47,66]⟩,.string ⟨#[]⟩,.slice (some ⟨w.heap.size,0,none⟩) 1 1,.slice (some ⟨w.heap.size+1+1,0,none⟩) 1 1] A4u)):=by
  refine⟨Ss.lit UF.cells_length r1 rfl rfl,Ss.lit UM.cells_length r3 rfl rfl,fun m hm=> ?_⟩;obtain rfl:m=fxM (some ⟨w.heap.size+1,0,none⟩) 2:=by simpa[fxU]using hm
  exact⟨Ss.lit IN.cells_length r2 rfl rfl,Ss.nil _ _,Ss.nil _ _,fun p hp=>by simp[fxM]at hp⟩
 have HU:=hzz hrd;have HB0:=hzz hB0;have HG:=hzz r4;have HV:=hzz hv;clear hs1 hs2 hs3 b1 b2 b3 b4 r1 r2 r3 r4 hB0 hrd hv;go_enter Tryz.func8,Tryz.ntmps8
 go_upto_region 2 with fail
 generalize((((w.alloc (.cells #[.bool false,.string ⟨#[120]⟩,.string ⟨#[73]⟩] 52)).alloc (.cells #[.int .u8 167,.int .i64 1,.int .i64 0,.string ⟨#[]⟩,.string ⟨#[]⟩,.string ⟨#[]⟩,.string ⟨#[]⟩,.int .u8 177,.int .i64 0,.int .i64 0,.string ⟨#[]⟩,.string ⟨#[]⟩,.string ⟨#[]⟩,.string ⟨#[]⟩] A2e)).alloc (.cells #[.bool true,.string ⟨#[103,111]⟩,.string ⟨#[40,41,86]⟩,.int .i64 0,.int .i64 0,.slice (some ⟨w.heap.size+1,0,none⟩) 2 2,.slice none 0 0,.slice none 0 0] A1d)).alloc (.cells #[.string ⟨#[97,47,66]⟩,.string ⟨#[]⟩,.slice (some ⟨w.heap.size,0,none⟩) 1 1,.slice (some ⟨w.heap.size+1+1,0,none⟩) 1 1] A4u))=W0 at*
 have HLO:=hzz (B1z W0 (fxU (some ⟨w.heap.size,0,none⟩) (some ⟨w.heap.size+1+1,0,none⟩) (some ⟨w.heap.size+1,0,none⟩) 1 1 2) HU.out (D1c _ _ _ _ _ _) (HV.out.below HB0.out))
 unfold C3q at HLO;rw[D9h]at HLO
 have HLN:Hid (Calls Tryz.prog 14 #[.agg #[.string ⟨#[97,47,66]⟩,.string ⟨#[]⟩,.slice (some ⟨w.heap.size,0,none⟩) 1 1,.slice (some ⟨w.heap.size+1+1,0,none⟩) 1 1]] W0 (fun e w'=>∃x:KF,e= .returned (.tuple #[.agg x.cells.toArray,.int .i64 0])/\x.lp=fxL/\x.Rd w'/\x.Fit/\Below W0.heap.size W0 w')):=by
  refine hzz (HLO.out.mono ?_);rintro e w' ⟨x,h1,h2,-,h4⟩;obtain⟨h5,h6,h7⟩:=h2 rfl;exact⟨x,h1,h5.trans (D6v _ _ _ _ _ _),h6,h7,h4⟩
 clear HLO;have k0:W0.cell? ⟨w.heap.size+1+1+1,0,none⟩=some (.string ⟨#[97,47,66]⟩):=A0a HG.out 0 rfl
 have k1:W0.cell? ⟨w.heap.size+1+1+1,1,none⟩=some (.string ⟨#[]⟩):=A0a HG.out 1 rfl
 have k2:W0.cell? ⟨w.heap.size+1+1+1,2,none⟩=some (.slice (some ⟨w.heap.size,0,none⟩) 1 1):=A0a HG.out 2 rfl
 have k3:W0.cell? ⟨w.heap.size+1+1+1,3,none⟩=some (.slice (some ⟨w.heap.size+1+1,0,none⟩) 1 1):=A0a HG.out 3 rfl
 go_wp2_with fail
 clear k0 k1 k2 k3;refine HLN.out.mono ?_;clear HLN;rintro e w1 ⟨x,rfl,hxl,hxr,hxf,hb1⟩;have HB1:=btz HB0 hb1;have HG1:=hzz (A0e HG.out hb1);have HU1:=hzz (HU.out.below hb1);clear hb1 HB0 HG HU
 obtain⟨hlc,hlv⟩:=D7p x hxl;have HLC:=hzz hlc;have HLV:=hzz hlv;clear hxl hlc hlv;have hal:Below w1.heap.size w1 (w1.alloc (.cells x.cells.toArray 26)):=A0f _ _
 have hra:=heap_alloc_last w1 (.cells x.cells.toArray 26)
 have HLI:=hzz (B3n (w1.alloc (.cells x.cells.toArray 26)) x (hxr.below hal) hxf (HV.out.below (HB1.out.trans (hal.mono HB1.out.size))) (B4p hxr hxf));have HB2:=btz HB1 hal
 have HG2:=hzz (A0e HG1.out hal);have HU2:=hzz (HU1.out.below hal);have c0:(w1.alloc (.cells x.cells.toArray 26)).cell? ⟨w1.heap.size,0,none⟩=some (.slice x.pa x.pn x.pc):=A0a hra 0 rfl
 have c1:(w1.alloc (.cells x.cells.toArray 26)).cell? ⟨w1.heap.size,1,none⟩=some (.int .i64 x.th):=A0a hra 1 rfl
 have c2:(w1.alloc (.cells x.cells.toArray 26)).cell? ⟨w1.heap.size,2,none⟩=some (.int .i64 x.su):=A0a hra 2 rfl
 have c3:(w1.alloc (.cells x.cells.toArray 26)).cell? ⟨w1.heap.size,3,none⟩=some (.slice x.fa x.fn x.fc):=A0a hra 3 rfl
 have c4:(w1.alloc (.cells x.cells.toArray 26)).cell? ⟨w1.heap.size,4,none⟩=some (.slice x.ma x.mn x.mc):=A0a hra 4 rfl;clear hal hra hxr hxf HB1 HG1 HU1
 obtain⟨pa,pn,pc,pool,th,su,fa,fn,fc,fields,ma,mn,mc,methods⟩:=x;dsimp only[KF.cells]at*
 go_upto_region 3 with fail
 generalize w1.alloc _=W2 at*
 go_wp2_with fail
 clear c0 c1 c2 c3 c4;refine HLI.out.mono ?_;clear HLI;rintro e w2 ⟨v,er,rfl,h1,h2,-,-,ho,hb2⟩;obtain rfl:er=0:=h1.2 HLC.out;have HVP:=hzz ((h2 rfl).trans HLV.out)
 have hal:=A0f w2 (.cells v.cells.toArray A4u);have hbv:=hb2.trans (hal.mono hb2.size);have HB3:=btz HB2 hbv;have HG3:=hzz (A0e HG2.out hbv);have HU3:=hzz (HU2.out.below hbv)
 have HVR:=hzz (ho.rd.below hal);have HVG:=hzz (heap_alloc_last w2 (.cells v.cells.toArray A4u));obtain⟨g4,hg4⟩:∃g,g=w2.heap.size:=⟨_,rfl⟩;clear h1 h2 ho hb2 hal hbv HB2 HG2 HU2 HLC HLV
 obtain⟨nm2,su2,fa2,fn2,fc2,fields2,ma2,mn2,mc2,methods2⟩:=v;dsimp only[UU.cells]at*
 go_upto_region 4 with fail
 generalize w2.alloc _=W3 at*;rw[<-hg4]at HVG⊢;clear hg4;have HLZ:=hzz (B3n W3 zf (E0j _) D4u (HV.out.below HB3.out) (fun i=>B4p (E0j W3) D4u i));dsimp only[zf]at HLZ
 go_wp2_with fail
 refine HLZ.out.mono ?_;clear HLZ;rintro e w3 ⟨z,er,rfl,-,-,-,h8,-,hb3⟩;obtain rfl:er=8:=h8 E1s;have hal:=A0f w3 (.cells z.cells.toArray A4u);have hbv:=hb3.trans (hal.mono hb3.size)
 have HB4:=btz HB3 hbv;have HG4:=hzz (A0e HG3.out hbv);have HU4:=hzz (HU3.out.below hbv);have HVR4:=hzz (HVR.out.below hbv);have HVG4:=hzz (A0e HVG.out hbv)
 clear h8 hb3 hal hbv HB3 HG3 HU3 HVR HVG;obtain⟨nm3,su3,fa3,fn3,fc3,fields3,ma3,mn3,mc3,methods3⟩:=z;dsimp only[UU.cells]at*
 go_upto_region 5 with fail
 generalize w3.alloc _=W4 at*;have HLE:=hzz (B1z W4 u0 (E1v _) E0q (HV.out.below HB4.out));unfold C3q at HLE;rw[D9z]at HLE;dsimp only[u0,UU.cells]at HLE
 go_wp2_with fail
 refine HLE.out.mono ?_;clear HLE;rintro e w4 ⟨z,rfl,-,h8,hb3⟩;obtain rfl:=h8 (by decide);have hal:=A0f w4 (.cells #[.slice none 0 0,.int .i64 0,.int .i64 0,.slice none 0 0,.slice none 0 0] 26)
 have hbv:=hb3.trans (hal.mono hb3.size);have HB5:=btz HB4 hbv;have HG5:=hzz (A0e HG4.out hbv);have HU5:=hzz (HU4.out.below hbv);have HVR5:=hzz (HVR4.out.below hbv)
 have HVG5:=hzz (A0e HVG4.out hbv);clear h8 hb3 hal hbv HB4 HG4 HU4 HVR4 HVG4;dsimp only[KF.cells]
 go_upto_region 6 with fail
 generalize w4.alloc _=W5 at*;have HSA:=hzz (B8y W5 _ _ HU5.out HVR5.out (by rw[HVP.out];rfl) (D1c _ _ _ _ _ _));dsimp only[fxU,UU.cells]at HSA
 have HI1:=hzz (fun(W:World) (h:Below W5.heap.size W5 W)=>A4s W [97,36] (by decide) (HV.out.below (HB5.out.trans (h.mono HB5.out.size))))
 have HI2:=hzz (fun(W:World) (h:Below W5.heap.size W5 W)=>A4s W [97,47,98] (by decide) (HV.out.below (HB5.out.trans (h.mono HB5.out.size))));rw[show A5e [97,36]=true by kernel_rfl]at HI1
 rw[show A5e [97,47,98]=false by kernel_rfl]at HI2;have k0:W5.cell? ⟨w.heap.size+1+1+1,0,none⟩=some (.string ⟨#[97,47,66]⟩):=A0a HG5.out 0 rfl
 have k1:W5.cell? ⟨w.heap.size+1+1+1,1,none⟩=some (.string ⟨#[]⟩):=A0a HG5.out 1 rfl
 have k2:W5.cell? ⟨w.heap.size+1+1+1,2,none⟩=some (.slice (some ⟨w.heap.size,0,none⟩) 1 1):=A0a HG5.out 2 rfl
 have k3:W5.cell? ⟨w.heap.size+1+1+1,3,none⟩=some (.slice (some ⟨w.heap.size+1+1,0,none⟩) 1 1):=A0a HG5.out 3 rfl
 have c0:W5.cell? ⟨g4,0,none⟩=some (.string ⟨nm2.toArray⟩):=A0a HVG5.out 0 rfl;have c1:W5.cell? ⟨g4,1,none⟩=some (.string ⟨su2.toArray⟩):=A0a HVG5.out 1 rfl
 have c2:W5.cell? ⟨g4,2,none⟩=some (.slice fa2 fn2 fc2):=A0a HVG5.out 2 rfl;have c3:W5.cell? ⟨g4,3,none⟩=some (.slice ma2 mn2 mc2):=A0a HVG5.out 3 rfl
 go_wp2_with fail
 clear k0 k1 k2 k3 c0 c1 c2 c3;refine HSA.out.mono ?_;clear HSA;rintro e w5 ⟨rfl,hb5⟩
 go_wp2_with fail
 refine(HI1.out _ hb5).mono ?_;rintro e w6 ⟨rfl,hb6⟩;have hb56:=hb5.trans (hb6.mono hb5.size)
 go_wp2_with fail
 refine(HI2.out _ hb56).mono ?_;rintro e w7 ⟨rfl,hb7⟩;have hb57:=hb56.trans (hb7.mono hb56.size)
 go_wp2_with fail
 go_ret;exact⟨rfl,HB5.out.trans (hb57.mono HB5.out.size)⟩
end
section
open Go.ChangeShapes Go.WideShapes Go.ChangeAt Go.RowKit Go.Joins Go.Deep
section
variable {H:Type} {enc:TypeId×Value->H} {w:World} {r:Reach} {b0:Nat} {v:Value} {d:DataW H} {p:List MemPlace}
end
theorem vw_of{W:World}{r:List (String×DataW Unit)}(hsh:W.ShapedOpen Tryz.prog)(_:laidMet Tryz.prog r W):VW W:=
 ⟨cell_of_shapedOpen_int (t:=3) (k:= .i64) hsh (g:=0) (of_decide_eq_true (by kernel_rfl)) (zero:= #[.int .i64 0]) (by kernel_rfl) rfl (by kernel_rfl) (by kernel_rfl) Tryz.underlying3⟩
theorem handed_and_shaped{H:Type}{enc:TypeId×Value->H}{a:Assume}{C:Checked}{os:Os}{f:FuncId}{fn:Func}{s:ChangeSpec}{conds:List PathCond}{apart fresh handsOn again:Bool}{X:World->Array Value->Prop}
  (hX:∀(w w':World) (args:Array Value),w.heap=w'.heap->X w args->X w' args)
  (own:ownKnob C.prog.godebug=none) (started:os.Started) (noInit:C.prog.inits.idxOf? f=none) (hfn:C.prog.funcs[f]? =some fn)
  (witness:∃(w:World) (tape:Tape) (i:Input),w.os=os/\(w.forCall tape i).Shaped C.prog/\i.vars=[]/\Input.okWide C.prog (w.forCall tape i) .any w.heap.size f i/\
   ((s.pre enc C.prog fn conds apart (w.forCall tape i).memory i.args/\X (w.forCall tape i).memory i.args)/\sizedMet enc C.prog fn (OpenSpec.ofChange s) apart (w.forCall tape i).memory i.args)/\a.holds C.prog (lone (Frame.enter C.prog f i.args .normal) [] (w.forCall tape i)))
  (contract:∀(W:World) (base:Nat) (args:Array Value) (ds gs:List (DataW H)) (before:List MemPlace),
   (∀(j:Nat) t v,fn.params[j]? =some t->args[j]? =some v->Value.okWide C.prog W .any base t v)->
   DataW.Whole enc C.prog fn.params.toList s.vars apart W args.toList ds gs before->
   conds.all (PathCond.test C.prog ⟨fn.params.toList,ds,s.plain.varTypes C.prog,gs⟩)=true->
   (DataW.weightsEach C.prog (fn.params.toList++s.plain.varTypes C.prog) (ds++gs)).all (·<=reachBytes)=true->X W args->W.ShapedOpen C.prog->
   a.holds C.prog (lone (Frame.enter C.prog f args .normal) [] W)->
   Calls C.prog f args W fun e W'=>∃v,e= .returned v/\s.post enc C.prog fn apart fresh handsOn again W args v W'):
  ReturnsInHanded a C os f .any (fun w args=>(s.pre enc C.prog fn conds apart w args/\X w args)/\sizedMet enc C.prog fn (OpenSpec.ofChange s) apart w args) (s.post enc C.prog fn apart fresh handsOn again):=by
 refine returnsInHanded_of_calls own started noInit witness ?_;intro w tape i _ hsh _ hok hpre hholds;obtain⟨_,_,_,fn',hfn',_,_,_,_,hval⟩:=hok;have e:fn'=fn:=Option.some.inj (hfn'.symm.trans hfn)
 subst e;obtain⟨⟨⟨ds,gs,before,hw,hc⟩,hx⟩,hz⟩:=hpre;have hw':=DataW.Whole.of_heap (w':=w.forCall tape i) (by rfl) hw
 refine(contract (w.forCall tape i) w.heap.size i.args ds gs before hval hw' hc (hz.weights hw) (hX _ _ _ (by rfl) hx) hsh hholds).mono fun e W' ⟨v,he,hp⟩=> ?_
 subst he;exact ChangeSpec.post_blind hp
end
end Go.Proofs.YtclpkipaehpkdaaGreatDoor
