/- asm -/
import Derived.Test.YtclpkipaehpkdaaGreatDoorQ10AsmBack
import Derived.Test.YtclpkipaehpkdaaGreatDoorQ11AsmBack
import Derived.Lib.SmallJoins
import Derived.SizedLaws
set_option linter.unusedVariables false
set_option linter.unusedSimpArgs false
set_option maxRecDepth 100000
set_option maxHeartbeats 64000000
open Go.Proofs.Tryz
namespace Go.Proofs.YtclpkipaehpkdaaGreatDoor
section
open Go.ChangeShapes Go.WideShapes Go.ChangeAt Go.RowKit
theorem bD(f:KF):xn f=true↔(xP f.pool=true/\clsOk f.pool f.th=true/\(f.su=0\/clsOk f.pool f.su=true)/\(f.fields.length<=64/\f.methods.length<=64)/\f.fields.all (fun d=>xK f.pool d.fl d.nm d.ds)=true/\f.methods.all (xF f.pool)=true):=by
 unfold xn;simp only[Bool.and_eq_true,Bool.or_eq_true,decide_eq_true_eq];constructor
 ·rintro⟨⟨⟨⟨⟨h1,h2⟩,h3⟩,h4⟩,h5⟩,h6⟩;exact⟨h1,h2,h3,h4,h5,h6⟩
 rintro⟨h1,h2,h3,h4,h5,h6⟩;exact⟨⟨⟨⟨⟨h1,h2⟩,h3⟩,h4⟩,h5⟩,h6⟩
def E8r(pr c1:Bool)(su:Int)(c2:Bool)(fn mn:Nat)(fs ms:Bool):Prop:=pr=true/\c1=true/\(su=0\/c2=true)/\(fn<=64/\mn<=64)/\fs=true/\ms=true
theorem D1z(w:World)(f:KF)(h:f.Rd w)(U1:f.pn<=65536)(GR:∀i:Nat,i<f.pn->(kAt f.pool i).s.length<=65536)(UY:f.Big):
  Calls prog 25 #[.agg f.vals] w (yS (xn f) w):=by
 obtain⟨R,hR⟩:=Z8 (xn f);have hq:=bD f;rw[<-hR]at hq⊢;have Xf:=h.fields.1;have RE:=h.methods.1
 have HQ:=Z' (show R=true↔E8r (xP f.pool) (clsOk f.pool f.th) f.su (clsOk f.pool f.su) f.fn f.mn (f.fields.all (fun d=>xK f.pool d.fl d.nm d.ds)) (f.methods.all (xF f.pool)) by
  rw[hq,Xf,RE];rfl)
 have HX:=Z' h;have Mu:=Z' GR;have Ev:=Z' UY.each;have hfb:=UY.fn;have Fu:=UY.mn;clear hq hR Xf RE h GR UY;obtain⟨pa,pn,pc,pool,th,su,fa,fn,fc,fields,ma,mn,mc,methods⟩:=f;unfold KF.vals;dsimp only at*;have ZY:Below w.heap.size w (w.alloc (.cells #[.slice pa pn pc,.int .i64 th,.int .i64 su,.slice fa fn fc,.slice ma mn mc] 26)):=yV _ _;have Y8:=Z' (heap_alloc_last w (.cells #[.slice pa pn pc,.int .i64 th,.int .i64 su,.slice fa fn fc,.slice ma mn mc] 26));have Zp:=Z' ZY;clear ZY;go_enter func25,ntmps25
 go_upto_region 1 with fail
 generalize w.alloc _=W0 at*;obtain⟨bf,Kd⟩:∃b,b=w.heap.size:=⟨_,rfl⟩;rw[<-Kd]at Y8⊢;clear Kd;have Nh:=Z' (dh W0 pa pn pc pool (HX.out.pool.below Zp.out) U1 Mu.out);have UC:=Z' (fun w' (hb:Below w.heap.size w w')=>pF w' pa pn pc pool th (HX.out.pool.below hb) U1);have YF:=Z' (fun w' (hb:Below w.heap.size w w')=>pF w' pa pn pc pool su (HX.out.pool.below hb) U1);generalize xP pool=pr at*;generalize clsOk pool th=c1 at*;generalize clsOk pool su=c2 at*;have k0:=y8 Y8.out 0 rfl
 go_cut [43] (fun r wx=>∃bad:Bool,r= .bool bad/\Hid (bad=true->false=R)/\Hid (bad=false->pr=true/\c1=true/\(su=0\/c2=true)/\(fn<=64/\mn<=64))/\Hid (Below w.heap.size w wx)/\Hid (wx.heap[bf]? =some (.cells #[.slice pa pn pc,.int .i64 th,.int .i64 su,.slice fa fn fc,.slice ma mn mc] 26)))
 case first=>
  have k1:=y8 Y8.out 1 rfl;have k2:=y8 Y8.out 2 rfl;have k3:=y8 Y8.out 3 rfl;have k4:=y8 Y8.out 4 rfl
  go_wp2_with fail
  refine Nh.out.mono ?_;rintro e W1 ⟨rfl,hb⟩;have M0:=Z7 Zp hb;have Tn:=Z' (yW Y8.out hb);clear hb;have k1:=y8 Tn.out 1 rfl;have k2:=y8 Tn.out 2 rfl;have k0:=y8 Tn.out 0 rfl;have k3:=y8 Tn.out 3 rfl;have k4:=y8 Tn.out 4 rfl
  cases pr with
  |false=>
   have YG:=Z9 (true=true->false=R) (fun _=>vS HQ.out (fun hq=>by cases hq.1))
   have Y6:=Z9 (true=false->(false:Bool)=true/\c1=true/\(su=0\/c2=true)/\(fn<=64/\mn<=64)) (fun h=>by cases h)
   clear HQ
   go_wp2_with fail
   go_meet
   exact⟨true,rfl,Z' (by first|exact YG.out|simpa using YG.out|simp),Z' (by first|exact Y6.out|simpa using Y6.out|simp),M0,Tn⟩
  |true=>
  go_wp2_with fail
  refine(UC.out W1 M0.out).mono ?_;rintro e W2 ⟨rfl,hb⟩;have Sh:=Z7 M0 hb;have UR:=Z' (yW Tn.out hb);clear hb;have k1:=y8 UR.out 1 rfl;have k2:=y8 UR.out 2 rfl;have k0:=y8 UR.out 0 rfl;have k3:=y8 UR.out 3 rfl;have k4:=y8 UR.out 4 rfl
  cases c1 with
  |false=>
   have YG:=Z9 (true=true->false=R) (fun _=>vS HQ.out (fun hq=>by cases hq.2.1))
   have Y6:=Z9 (true=false->(true:Bool)=true/\(false:Bool)=true/\(su=0\/c2=true)/\(fn<=64/\mn<=64)) (fun h=>by cases h)
   clear HQ
   go_wp2_with fail
   go_meet
   exact⟨true,rfl,Z' (by first|exact YG.out|simpa using YG.out|simp),Z' (by first|exact Y6.out|simpa using Y6.out|simp),Sh,UR⟩
  |true=>
  by_cases h0:su=0
  ·have e0:(su !=0)=false:=by simp[h0]
   have YZ:=Z' h0;clear h0;by_cases h1:64<fn
   ·have e1:decide ((64:Int)<fn)=true:=decide_eq_true (by omega);have YG:=Z9 (true=true->false=R) (fun _=>vS HQ.out (fun hq=>by have h2:=hq.2.2.2.1;omega))
    have Y6:=Z9 (true=false->(true:Bool)=true/\(true:Bool)=true/\(su=0\/c2=true)/\(fn<=64/\mn<=64)) (fun h=>by cases h)
    clear HQ
    go_wp2_with fail
    go_meet
    exact⟨true,rfl,Z' (by first|exact YG.out|simpa using YG.out|simp),Z' (by first|exact Y6.out|simpa using Y6.out|simp),Sh,UR⟩
   have e1:decide ((64:Int)<fn)=false:=decide_eq_false (by omega);by_cases h2:64<mn
   ·have e2:decide ((64:Int)<mn)=true:=decide_eq_true (by omega);have YG:=Z9 (true=true->false=R) (fun _=>vS HQ.out (fun hq=>by have h2:=hq.2.2.2.1;omega))
    have Y6:=Z9 (true=false->(true:Bool)=true/\(true:Bool)=true/\(su=0\/c2=true)/\(fn<=64/\mn<=64)) (fun h=>by cases h)
    clear HQ
    go_wp2_with fail
    go_meet
    exact⟨true,rfl,Z' (by first|exact YG.out|simpa using YG.out|simp),Z' (by first|exact Y6.out|simpa using Y6.out|simp),Sh,UR⟩
   have e2:decide ((64:Int)<mn)=false:=decide_eq_false (by omega)
   have YG:=Z9 (false=true->false=R) (fun h=>by cases h)
   have Y6:=Z9 (false=false->(true:Bool)=true/\(true:Bool)=true/\(su=0\/c2=true)/\(fn<=64/\mn<=64)) (fun _=>⟨rfl,rfl,.inl YZ.out,by omega,by omega⟩);clear HQ
   go_wp2_with fail
   go_meet
   exact⟨false,rfl,Z' (by first|exact YG.out|simpa using YG.out|simp),Z' (by first|exact Y6.out|simpa using Y6.out|simp),Sh,UR⟩
  have e0:(su !=0)=true:=by simp[h0]
  have YZ:=Z' h0;clear h0
  go_wp2_with fail
  refine(YF.out W2 Sh.out).mono ?_;rintro e W3 ⟨rfl,hb⟩;have P0:=Z7 Sh hb;have Un:=Z' (yW UR.out hb);clear hb;have k1:=y8 Un.out 1 rfl;have k2:=y8 Un.out 2 rfl;have k0:=y8 Un.out 0 rfl;have k3:=y8 Un.out 3 rfl;have k4:=y8 Un.out 4 rfl
  cases c2 with
  |false=>
   have YG:=Z9 (true=true->false=R) (fun _=>vS HQ.out (fun hq=>by exact hq.2.2.1.elim YZ.out (fun h=>by cases h)))
   have Y6:=Z9 (true=false->(true:Bool)=true/\(true:Bool)=true/\(su=0\/(false:Bool)=true)/\(fn<=64/\mn<=64)) (fun h=>by cases h)
   clear HQ
   go_wp2_with fail
   go_meet
   exact⟨true,rfl,Z' (by first|exact YG.out|simpa using YG.out|simp),Z' (by first|exact Y6.out|simpa using Y6.out|simp),P0,Un⟩
  |true=>
  by_cases h1:64<fn
  ·have e1:decide ((64:Int)<fn)=true:=decide_eq_true (by omega);have YG:=Z9 (true=true->false=R) (fun _=>vS HQ.out (fun hq=>by have h2:=hq.2.2.2.1;omega))
   have Y6:=Z9 (true=false->(true:Bool)=true/\(true:Bool)=true/\(su=0\/(true:Bool)=true)/\(fn<=64/\mn<=64)) (fun h=>by cases h)
   clear HQ
   go_wp2_with fail
   go_meet
   exact⟨true,rfl,Z' (by first|exact YG.out|simpa using YG.out|simp),Z' (by first|exact Y6.out|simpa using Y6.out|simp),P0,Un⟩
  have e1:decide ((64:Int)<fn)=false:=decide_eq_false (by omega);by_cases h2:64<mn
  ·have e2:decide ((64:Int)<mn)=true:=decide_eq_true (by omega);have YG:=Z9 (true=true->false=R) (fun _=>vS HQ.out (fun hq=>by have h2:=hq.2.2.2.1;omega))
   have Y6:=Z9 (true=false->(true:Bool)=true/\(true:Bool)=true/\(su=0\/(true:Bool)=true)/\(fn<=64/\mn<=64)) (fun h=>by cases h)
   clear HQ
   go_wp2_with fail
   go_meet
   exact⟨true,rfl,Z' (by first|exact YG.out|simpa using YG.out|simp),Z' (by first|exact Y6.out|simpa using Y6.out|simp),P0,Un⟩
  have e2:decide ((64:Int)<mn)=false:=decide_eq_false (by omega)
  have YG:=Z9 (false=true->false=R) (fun h=>by cases h)
  have Y6:=Z9 (false=false->(true:Bool)=true/\(true:Bool)=true/\(su=0\/(true:Bool)=true)/\(fn<=64/\mn<=64)) (fun _=>⟨rfl,rfl,.inr rfl,by omega,by omega⟩);clear HQ
  go_wp2_with fail
  go_meet
  exact⟨false,rfl,Z' (by first|exact YG.out|simpa using YG.out|simp),Z' (by first|exact Y6.out|simpa using Y6.out|simp),P0,Un⟩
 obtain⟨bad,rfl,QG,Tz,ZM,Y3⟩:=hcut;clear k0 Nh UC YF Zp Y8;have k3:=y8 Y3.out 3 rfl
 cases bad with
 |true=>
  have HF:=Z' (QG.out rfl)
  go_wp2_with fail
  go_ret;exact yS.of HF.out ZM.out
 |false=>
 have VJ:=Z' (Tz.out rfl);clear QG Tz
 go_wp2_with fail
 clear k3
 go_loopg [47] fn (fun gn i wr=>∃j:Nat,j<=fn/\gn=fn-j/\i= .int .i64 j/\Hid ((fields.take j).all (fun d=>xK pool d.fl d.nm d.ds)=true)/\Hid (Below w.heap.size w wr)/\Hid (wr.heap[bf]? =some (.cells #[.slice pa pn pc,.int .i64 th,.int .i64 su,.slice fa fn fc,.slice ma mn mc] 26)))
 case atStart=>exact⟨0,by omega,by omega,by go_num,Z' (by simp),ZM,Y3⟩
 clear ZM Y3;obtain⟨j,hj,rfl,rfl,HA,HB,HT⟩:=hrel;by_cases ZX:j<fn
 ·obtain⟨b,off,x,rfl,_,hv,q⟩:=Ss.getC (HX.out.fields.below HB.out) j ZX
  have HN:=Z' (fun(h:xK pool x.fl x.nm x.ds=false)=>show false=R from vS HQ.out (fun hq=>by have h2:=hq.2.2.2.2.1;rw[rW hv h]at h2;cases h2))
  have HY:=Z' (fun(h:xK pool x.fl x.nm x.ds=true)=>show(fields.take (j+1)).all (fun d=>xK pool d.fl d.nm d.ds)=true by rw[tX _ _ _ _ hv,HA.out,h];rfl);obtain⟨fl,nm,ds⟩:=x;dsimp only at HN HY;have q0:wr.cell? ⟨b,off+j*3,none⟩=some (.int .i64 fl):=q 0 (by omega);have q1:wr.cell? ⟨b,off+j*3+1,none⟩=some (.int .i64 nm):=q 1 (by omega);have q2:wr.cell? ⟨b,off+j*3+2,none⟩=some (.int .i64 ds):=q 2 (by omega);clear q hv;have ZY:Below wr.heap.size wr (wr.alloc (.cells #[.int .i64 fl,.int .i64 nm,.int .i64 ds] 75)):=yV _ _;have LK:=Z' (heap_alloc_last wr (.cells #[.int .i64 fl,.int .i64 nm,.int .i64 ds] 75));have ZT:=Z7 HB ZY;have Y':=Z' (yW HT.out ZY);have XZ:(j:Int)<fn:=by omega
  go_upto_region 6 with fail
  clear q0 q1 q2 ZY HB HT;generalize wr.alloc _=W1 at*;generalize wr.heap.size=bt at*;have p0:=y8 LK.out 0 rfl;have p1:=y8 LK.out 1 rfl;have p2:=y8 LK.out 2 rfl;have k0:=y8 Y'.out 0 rfl;have Zy:=Z' (jG W1 pa pn pc pool fl nm ds (HX.out.pool.below ZT.out) U1);generalize xK pool fl nm ds=ok at*
  go_wp2_with fail
  refine Zy.out.mono ?_;rintro e w2 ⟨rfl,hb⟩;have ZG:=Z7 ZT hb;have VF:=Z' (yW Y'.out hb);clear hb Zy p0 p1 p2 k0 ZT Y'
  cases ok with
  |false=>
   have HF:=Z' (HN.out rfl)
   go_wp2_with fail
   go_ret;exact yS.of HF.out ZG.out
  |true=>
  have HF:=Z' (HY.out rfl)
  go_wp2_with fail
  go_roundg (fn-(j+1))
  case measure=>omega
  exact⟨j+1,by omega,rfl,by go_num,HF,ZG,VF⟩
 obtain rfl:fn=j:=by omega
 have Vy:=Z9 (fields.all (fun d=>xK pool d.fl d.nm d.ds)=true) (rn HA.out HX.out.fields.1);clear HA;have k4:=y8 HT.out 4 rfl
 go_wp2_with fail
 clear k4
 go_loopg [65] mn (fun gn i wr=>∃j:Nat,j<=mn/\gn=mn-j/\i= .int .i64 j/\Hid ((methods.take j).all (xF pool)=true)/\Hid (Below w.heap.size w wr)/\Hid (wr.heap[bf]? =some (.cells #[.slice pa pn pc,.int .i64 th,.int .i64 su,.slice fa fn fc,.slice ma mn mc] 26)))
 case atStart=>exact⟨0,by omega,by omega,by go_num,Z' (by simp),HB,HT⟩
 clear HB HT;obtain⟨j,hj,rfl,rfl,HA,HB,HT⟩:=hrel;by_cases ZX:j<mn
 ·obtain⟨b,off,x,rfl,_,hv,q⟩:=Ss.getC (HX.out.methods.below HB.out) j ZX
  have HN:=Z' (fun(h:xF pool x=false)=>show false=R from vS HQ.out (fun hq=>by have h2:=hq.2.2.2.2.2;rw[rW hv h]at h2;cases h2))
  have HY:=Z' (fun(h:xF pool x=true)=>show(methods.take (j+1)).all (xF pool)=true by rw[tX _ _ _ _ hv,HA.out,h];rfl);have Tu:=HX.out.each x (List.mem_of_getElem? hv);have YQ:=Ev.out x (List.mem_of_getElem? hv);have Zy:=Z' (fun w' (hb:Below w.heap.size w w')=>ch w' pa pn pc pool x (HX.out.pool.below hb) U1 (Tu.below hb) YQ.1 YQ.2.1 YQ.2.2.1 YQ.2.2.2);clear Tu YQ;generalize xF pool x=ok at*;obtain⟨fl,nm,ds,st,lo,ca,cn,cc,code,ta,tn,tc,traps,na,nn,nc,maps⟩:=x;dsimp only at Zy;have q0:wr.cell? ⟨b,off+j*8,none⟩=some (.int .i64 fl):=q 0 (by omega);have q1:wr.cell? ⟨b,off+j*8+1,none⟩=some (.int .i64 nm):=q 1 (by omega);have q2:wr.cell? ⟨b,off+j*8+2,none⟩=some (.int .i64 ds):=q 2 (by omega);have q3:wr.cell? ⟨b,off+j*8+3,none⟩=some (.int .i64 st):=q 3 (by omega);have q4:wr.cell? ⟨b,off+j*8+4,none⟩=some (.int .i64 lo):=q 4 (by omega);have q5:wr.cell? ⟨b,off+j*8+5,none⟩=some (.slice ca cn cc):=q 5 (by omega);have q6:wr.cell? ⟨b,off+j*8+6,none⟩=some (.slice ta tn tc):=q 6 (by omega);have q7:wr.cell? ⟨b,off+j*8+7,none⟩=some (.slice na nn nc):=q 7 (by omega);clear q hv;have ZY:Below wr.heap.size wr (wr.alloc (.cells #[.int .i64 fl,.int .i64 nm,.int .i64 ds,.int .i64 st,.int .i64 lo,.slice ca cn cc,.slice ta tn tc,.slice na nn nc] 65)):=yV _ _;have N5:=Z' (heap_alloc_last wr (.cells #[.int .i64 fl,.int .i64 nm,.int .i64 ds,.int .i64 st,.int .i64 lo,.slice ca cn cc,.slice ta tn tc,.slice na nn nc] 65));have ZT:=Z7 HB ZY;have Y':=Z' (yW HT.out ZY);have XZ:(j:Int)<mn:=by omega
  go_upto_region 12 with fail
  clear q0 q1 q2 q3 q4 q5 q6 q7 ZY HB HT;generalize wr.alloc _=W1 at*;generalize wr.heap.size=bt at*;have p0:=y8 N5.out 0 rfl;have p1:=y8 N5.out 1 rfl;have p2:=y8 N5.out 2 rfl;have p3:=y8 N5.out 3 rfl;have p4:=y8 N5.out 4 rfl;have p5:=y8 N5.out 5 rfl;have p6:=y8 N5.out 6 rfl;have p7:=y8 N5.out 7 rfl;dsimp at p0 p1 p2 p3 p4 p5 p6 p7;have k0:=y8 Y'.out 0 rfl
  go_wp2_with fail
  refine(Zy.out W1 ZT.out).mono ?_;rintro e w2 ⟨rfl,hb⟩;have ZG:=Z7 ZT hb;have VF:=Z' (yW Y'.out hb);clear hb Zy p0 p1 p2 p3 p4 p5 p6 p7 k0 ZT Y'
  cases ok with
  |false=>
   have HF:=Z' (HN.out rfl)
   go_wp2_with fail
   go_ret;exact yS.of HF.out ZG.out
  |true=>
  have HF:=Z' (HY.out rfl)
  go_wp2_with fail
  go_roundg (mn-(j+1))
  case measure=>omega
  exact⟨j+1,by omega,rfl,by go_num,HF,ZG,VF⟩
 obtain rfl:mn=j:=by omega
 have Hd:=Z9 (methods.all (xF pool)=true) (rn HA.out HX.out.methods.1);have HF:=Z' (kE HQ.out ⟨VJ.out.1,VJ.out.2.1,VJ.out.2.2.1,VJ.out.2.2.2,Vy.out,Hd.out⟩)
 go_wp2_with fail
 go_ret;exact yS.of HF.out HB.out
theorem np{P:Program}{ρ:Operand->Value}{o:Oper}{op:BinOp}{t:TypeId}{x y:Operand}{ty:TypeId}(ho:o.op= .binOp op t x y ty){v:Value}{w:World}
  (h:((eqGuard op t x y (ρ x) (ρ y)).run P w).andThen (fun _ w'=>(binOp op t (ρ x) (ρ y)).run P w')= .ok v w):(execOp ρ o).run P w= .ok (.value v) w:=by
 unfold execOp;simp only[ho,Sem.run_bind,Sem.run_pure];rw[h];rfl
theorem rv{e:TypeId}{d:TypeDesc}(h1:prog.underlying e=some d)(h2:(match d with| .struct _| .array _ _=>false|_=>true)=true)(w:World)(cs:Array Value)(i:Nat)(v:Value)(h3:cs[i]? =some v):(part e cs i).run prog w= .ok v w:=by
 cases d<;>simp[part,isAgg,run_underlying h1,h3]at h2⊢
theorem xv{W u:World}{a:Addr}{v:Value}(h:EqW W.drew u)(hc:W.cell? a=some v):u.cell? a=some v:=by rw[show u=W.drew from h];exact hc
theorem eD{α β:Type}{f:α->β}{l m:List α}(h:l.map f=m.map f){j:Nat}{x y:α}(hx:l[j]? =some x)(hy:m[j]? =some y):f x=f y:=by
 have e:(l.map f)[j]? =(m.map f)[j]? :=by rw[h]
 rw[List.getElem?_map,List.getElem?_map,hx,hy]at e;simpa using e
end
section
open Go.ChangeShapes Go.WideShapes Go.ChangeAt Go.RowKit Go.Joins Go.Deep
theorem D6z{α:Type}(n:Nat)(P:Nat->α->Prop)(h:∀i,i<n->∃x,P i x):∃L:List α,L.length=n/\∀i (hi:i<L.length),P i L[i]:=by
 induction n with
 |zero=>exact⟨[],rfl,fun i hi=>by simp at hi⟩
 |succ n ih=>
  obtain⟨L,hl,hL⟩:=ih (fun i hi=>h i (by omega));obtain⟨x,hx⟩:=h n (by omega);refine⟨L++[x],by simp[hl],fun i hi=> ?_⟩;by_cases hin:i<L.length
  ·rw[List.getElem_append_left hin];exact hL i hin
  have:i=n:=by simp at hi;omega
  subst this;rw[List.getElem_append_right (by omega)];simpa[hl]using hx
theorem D7h(b off k j:Nat):((⟨b,off,none⟩:Addr).add k).add j=⟨b,off+k+j,none⟩:=by rw[mx,mx]
theorem D5d(x:Addr)(k:Nat):(x.add (0*k)).add 0=x:=by simp[Addr.add]
theorem kN{n:Int}(h:(Lit.int .i64 n).wf=true):yw n:=bounds_i64 h
theorem E7z{α:Type}{enc:α->Value}{w:World}{a:Option Addr}{n:Nat}{L:List α}(h:Ss 1 (fun v=>[enc v]) w a n L):Sl enc w a n L:=by
 refine⟨h.1,fun hn=> ?_⟩;obtain⟨b,off,ha,ZX,hc⟩:=h.2 hn;refine⟨b,off,ha,ZX,fun i hi=> ?_⟩;have:=hc i hi 0 (by omega);simpa using this
theorem E6x{cs:List Value}(h:cs.length=1):∃v,cs=[v]:=by
 match cs,h with
 |[v],_=>exact⟨v,rfl⟩
theorem rR:reachBytes=140737488351232:=rfl
theorem vV{H:Type}{enc:TypeId×Value->H}{w:World}{k:IntKind}{t:TypeId}{fuel:Nat}{v:Value}{x:DataW H×List MemPlace}(ht:prog.underlying t=some (.int k))(hf:DataW.trod enc prog w 0 (fun _=>true) true fuel t [v]=some x):∃n,v= .int k n/\(Lit.int k n).wf=true:=by
 obtain⟨n,WN,_,hw⟩:=DataW.trod_int ht hf;simp at WN;exact⟨n,WN,hw⟩
theorem E3a{H:Type}{enc:TypeId×Value->H}{w:World}{fuel:Nat}{x:DataW H×List MemPlace}{v:Value}(hf:DataW.trod enc prog w 0 (fun _=>true) true fuel 9 [v]=some x)(hw:∀m∈x.1.weights prog 9,m<=reachBytes):∃s:List UInt8,v= .string ⟨s.toArray⟩/\s.length<=140737488351232:=by
 obtain⟨s,WN,hx,h2⟩:=DataW.trod_string underlying9 hf;simp at WN;subst WN hx;refine⟨s.data.toList,rfl,hw _ (by simp[DataW.weights])⟩
theorem se{H:Type}{enc:TypeId×Value->H}{w:World}{fuel:Nat}{x:DataW H×List MemPlace}{t e:TypeId}{v:Value}(ht:prog.underlying t=some (.slice e))(hf:DataW.trod enc prog w 0 (fun _=>true) true fuel t [v]=some x):∃a n c,v= .slice a n c:=by
 rcases open_slice ht hf with⟨WN,_⟩|⟨x',len,c,m,n',D,Pl,WN,_⟩
 ·simp at WN;exact⟨none,0,0,WN⟩
 simp at WN;exact⟨some x',len,c,WN⟩
theorem jX{H:Type}{P:Program}{e:TypeId}:∀{l:List (DataW H)} {d:DataW H},d∈l->∀n∈d.weights P e,n∈DataW.weightsAll P e l
 |d'::r,d,hd,n,hn=>by
  simp only[DataW.weightsAll,List.mem_append]
  rcases List.mem_cons.1 hd with rfl|h
  ·exact Or.inl hn
  exact Or.inr (jX h n hn)
theorem rQ{H:Type}{enc:TypeId×Value->H}{w:World}{α:Type}{t e:TypeId}{z:Nat}(hz:0<z)(hu:prog.underlying t=some (.slice e))(hc:prog.cellsOf e=z)(cells:α->List Value)(Q:α->Prop)
  (Km:∀(fuel:Nat) (cs:List Value) (x:DataW H×List MemPlace),cs.length=z->DataW.trod enc prog w 0 (fun _=>true) true fuel e cs=some x->(∀n∈x.1.weights prog e,n<=reachBytes)->∃c:α,cs=cells c/\Q c)
  {fuel:Nat} {a:Option Addr} {n cap:Nat} {x:DataW H×List MemPlace} (hf:DataW.trod enc prog w 0 (fun _=>true) true fuel t [.slice a n cap]=some x) (hw:∀m∈x.1.weights prog t,m<=reachBytes):
  n<=cap/\n<=maxLen/\n*prog.bytesOf e<=reachBytes/\∃L:List α,Ss z cells w a n L/\∀c∈L,Q c:=by
 rcases open_slice hu hf with⟨WN,_⟩|⟨x',len,c,m,n',D,Pl,WN,_,hl,hm,Vj,hx,hi⟩
 ·simp at WN;obtain⟨rfl,rfl,rfl⟩:=WN
  exact⟨by omega,by unfold maxLen;omega,by omega,[],Ss.nil _ _,fun c hc=>by cases hc⟩
 simp at WN;obtain⟨rfl,rfl,rfl⟩:=WN;simp only[if_true]at Vj;subst Vj;subst hx
 have MZ:n*prog.bytesOf e<=reachBytes:=by
  have h1:=hw ((n+(m-n))*prog.bytesOf e) (by simp[DataW.weights,hu]);exact Nat.le_trans (Nat.mul_le_mul_right _ (by omega)) h1
 refine⟨hl,by omega,MZ,?_⟩;by_cases hn:0<n
 ·have SF:x'.spot=none:=by
   obtain⟨cs',Sq,ht⟩:=hi 0 (by omega);rw[hc]at Sq;obtain⟨_,XM,Yq⟩:=World.cells?_some Sq;have q0:=Yq 0 hz;rw[D5d]at q0;have h0:0<cs'.length:=by omega
   rw[List.getElem?_eq_getElem h0]at q0;exact World.cell?_spot q0
  obtain⟨b,off,spot⟩:=x';simp only at SF;subst SF
  have key:∀i,i<n->∃c:α,(∀j,j<z->w.cell? ⟨b,off+i*z+j,none⟩=(cells c)[j]?)/\Q c/\(cells c).length=z:=by
   intro i hin;obtain⟨cs',Sq,ht⟩:=hi i (by omega);rw[hc]at Sq;obtain⟨_,XM,Yq⟩:=World.cells?_some Sq
   obtain⟨c,rfl,hQ⟩:=Km n' cs' _ XM ht (fun k hk=>hw k (by
    simp only[DataW.weights,hu,List.mem_cons,List.mem_append];exact Or.inr (Or.inl (jX (List.mem_map.2 ⟨i,List.mem_range.2 hin,rfl⟩) k hk))))
   refine⟨c,fun j hj=> ?_,hQ,XM⟩;have q:=Yq j hj;rw[D7h]at q;exact q
  obtain⟨L,hL,Yq⟩:=D6z n _ key;refine⟨L,⟨hL,fun _=>⟨b,off,rfl,?_,fun i hi j hj=>(Yq i hi).1 j hj⟩⟩,fun c hc=> ?_⟩
  ·have q:=(Yq 0 (by omega)).1 0 hz;have h0:0<(cells (L[0]'(by omega))).length:=by rw[(Yq 0 (by omega)).2.2];exact hz
   rw[List.getElem?_eq_getElem h0]at q;exact World.block_lt_of_cell? w _ q
  obtain⟨i,hi,rfl⟩:=List.getElem_of_mem hc;exact(Yq i hi).2.1
 have h0:n=0:=by omega
 subst h0
 exact⟨[],Ss.nil _ _,fun c hc=>by cases hc⟩
theorem D4p:prog.cellsOf 5=1:=by kernel_rfl
theorem D5e:prog.bytesOf 5=1:=by kernel_rfl
theorem bY{H:Type}{enc:TypeId×Value->H}{w:World}{fuel:Nat}{a:Option Addr}{n cap:Nat}{x:DataW H×List MemPlace}(hf:DataW.trod enc prog w 0 (fun _=>true) true fuel 43 [.slice a n cap]=some x)(hw:∀m∈x.1.weights prog 43,m<=reachBytes):
  n<=cap/\n<=140737488355328/\∃L:List UInt8,Sl yp w a n L/\∀c∈L,True:=by
 obtain⟨h1,h2,h3,L,h4,h5⟩:=rQ (by omega) underlying43 D4p (fun v:UInt8=>[yp v]) (fun _=>True) (fun fuel cs x hl ht _=>by
  obtain⟨v,rfl⟩:=E6x hl;obtain⟨k,rfl,hk⟩:=vV underlying5 ht
  have hr:0<=k/\k<=255:=by
   unfold Lit.wf at hk;simp only[Bool.and_eq_true,decide_eq_true_eq]at hk;exact hk
  refine⟨UInt8.ofNat k.toNat,?_,trivial⟩;unfold yp;simp only[List.cons.injEq,Value.int.injEq,true_and,and_true];rw[UInt8.toNat_ofNat'];omega) hf hw
 rw[D5e,rR]at h3;exact⟨h1,by omega,L,E7z h4,h5⟩
theorem di:16<=prog.bytesOf 61:=of_decide_eq_true (by kernel_rfl)
theorem dk:prog.cellsOf 61=5:=by kernel_rfl
theorem cR{H:Type}{enc:TypeId×Value->H}{w:World}{fuel:Nat}{a:Option Addr}{n cap:Nat}{x:DataW H×List MemPlace}(hf:DataW.trod enc prog w 0 (fun _=>true) true fuel 22 [.slice a n cap]=some x)(hw:∀m∈x.1.weights prog 22,m<=reachBytes):
  n<=cap/\n<=140737488355328/\∃L:List KV,Ss 5 KV.cells w a n L/\∀c∈L,(-9223372036854775808<=c.n/\c.n<=9223372036854775807)/\c.s.length<=140737488355328:=by
 obtain⟨h1,h2,h3,L,h4,h5⟩:=rQ (by omega) underlying22 dk KV.cells (fun c:KV=>(-9223372036854775808<=c.n/\c.n<=9223372036854775807)/\c.s.length<=140737488355328) (fun fuel cs x hl ht hx=>by
  match cs,hl with
  |[c0,c1,c2,c3,c4],_=>
   obtain⟨xs,k,_,R6,_,ZR,hg⟩:=DataW.trod_struct underlying61 ht;subst R6
   match xs,ZR with
   |[y0,y1,y2,y3,y4],_=>
    have g0:DataW.trod enc prog w 0 (fun _=>true) true k 3 [c0]=some y0:=hg 0 _ rfl;have g1:DataW.trod enc prog w 0 (fun _=>true) true k 3 [c1]=some y1:=hg 1 _ rfl;have g2:DataW.trod enc prog w 0 (fun _=>true) true k 3 [c2]=some y2:=hg 2 _ rfl;have g3:DataW.trod enc prog w 0 (fun _=>true) true k 2 [c3]=some y3:=hg 3 _ rfl;have g4:DataW.trod enc prog w 0 (fun _=>true) true k 9 [c4]=some y4:=hg 4 _ rfl
    have VG:∀m∈DataW.weightsEach prog [3,3,3,2,9] [y0.1,y1.1,y2.1,y3.1,y4.1],m<=reachBytes:=fun m hm=>hx m (by
     simp only[DataW.weights,underlying61];exact hm)
    obtain⟨e0,rfl,w0⟩:=vV underlying3 g0;obtain⟨e1,rfl,w1⟩:=vV underlying3 g1;obtain⟨e2,rfl,w2⟩:=vV underlying3 g2;obtain⟨e3,rfl,w3⟩:=vV underlying2 g3;obtain⟨e4,rfl,w4⟩:=E3a g4 fun m hm=>VG m (DataW.weights_mem_each (j:=4) rfl rfl m hm)
    exact⟨⟨e0,e1,e2,e3,e4⟩,rfl,(by have h:=kN w3;unfold yw at h;exact h),(by show e4.length<=_;omega)⟩) hf hw
 have hb:=di;rw[rR]at h3;exact⟨h1,by have:=Nat.mul_le_mul_left n hb;omega,L,h4,h5⟩
theorem cf:16<=prog.bytesOf 174:=of_decide_eq_true (by kernel_rfl)
theorem bF:prog.cellsOf 174=2:=by kernel_rfl
theorem iR{H:Type}{enc:TypeId×Value->H}{w:World}{fuel:Nat}{a:Option Addr}{n cap:Nat}{x:DataW H×List MemPlace}(hf:DataW.trod enc prog w 0 (fun _=>true) true fuel 66 [.slice a n cap]=some x)(hw:∀m∈x.1.weights prog 66,m<=reachBytes):
  n<=cap/\n<=140737488355328/\∃L:List KS,Ss 2 KS.cells w a n L/\∀c∈L,True:=by
 obtain⟨h1,h2,h3,L,h4,h5⟩:=rQ (by omega) underlying66 bF KS.cells (fun c:KS=>True) (fun fuel cs x hl ht hx=>by
  match cs,hl with
  |[c0,c1],_=>
   obtain⟨xs,k,_,R6,_,ZR,hg⟩:=DataW.trod_struct underlying174 ht;subst R6
   match xs,ZR with
   |[y0,y1],_=>
    have g0:DataW.trod enc prog w 0 (fun _=>true) true k 3 [c0]=some y0:=hg 0 _ rfl;have g1:DataW.trod enc prog w 0 (fun _=>true) true k 3 [c1]=some y1:=hg 1 _ rfl
    have VG:∀m∈DataW.weightsEach prog [3,3] [y0.1,y1.1],m<=reachBytes:=fun m hm=>hx m (by
     simp only[DataW.weights,underlying174];exact hm)
    obtain⟨e0,rfl,w0⟩:=vV underlying3 g0;obtain⟨e1,rfl,w1⟩:=vV underlying3 g1;exact⟨⟨e0,e1⟩,rfl,trivial⟩) hf hw
 have hb:=cf;rw[rR]at h3;exact⟨h1,by have:=Nat.mul_le_mul_left n hb;omega,L,h4,h5⟩
theorem bW:16<=prog.bytesOf 123:=of_decide_eq_true (by kernel_rfl)
theorem bv:prog.cellsOf 123=4:=by kernel_rfl
theorem D1q{H:Type}{enc:TypeId×Value->H}{w:World}{fuel:Nat}{a:Option Addr}{n cap:Nat}{x:DataW H×List MemPlace}(hf:DataW.trod enc prog w 0 (fun _=>true) true fuel 62 [.slice a n cap]=some x)(hw:∀m∈x.1.weights prog 62,m<=reachBytes):
  n<=cap/\n<=140737488355328/\∃L:List KT,Ss 4 KT.cells w a n L/\∀c∈L,True:=by
 obtain⟨h1,h2,h3,L,h4,h5⟩:=rQ (by omega) underlying62 bv KT.cells (fun c:KT=>True) (fun fuel cs x hl ht hx=>by
  match cs,hl with
  |[c0,c1,c2,c3],_=>
   obtain⟨xs,k,_,R6,_,ZR,hg⟩:=DataW.trod_struct underlying123 ht;subst R6
   match xs,ZR with
   |[y0,y1,y2,y3],_=>
    have g0:DataW.trod enc prog w 0 (fun _=>true) true k 3 [c0]=some y0:=hg 0 _ rfl;have g1:DataW.trod enc prog w 0 (fun _=>true) true k 3 [c1]=some y1:=hg 1 _ rfl;have g2:DataW.trod enc prog w 0 (fun _=>true) true k 3 [c2]=some y2:=hg 2 _ rfl;have g3:DataW.trod enc prog w 0 (fun _=>true) true k 3 [c3]=some y3:=hg 3 _ rfl
    have VG:∀m∈DataW.weightsEach prog [3,3,3,3] [y0.1,y1.1,y2.1,y3.1],m<=reachBytes:=fun m hm=>hx m (by
     simp only[DataW.weights,underlying123];exact hm)
    obtain⟨e0,rfl,w0⟩:=vV underlying3 g0;obtain⟨e1,rfl,w1⟩:=vV underlying3 g1;obtain⟨e2,rfl,w2⟩:=vV underlying3 g2;obtain⟨e3,rfl,w3⟩:=vV underlying3 g3;exact⟨⟨e0,e1,e2,e3⟩,rfl,trivial⟩) hf hw
 have hb:=bW;rw[rR]at h3;exact⟨h1,by have:=Nat.mul_le_mul_left n hb;omega,L,h4,h5⟩
theorem c8:16<=prog.bytesOf 75:=of_decide_eq_true (by kernel_rfl)
theorem cX:prog.cellsOf 75=3:=by kernel_rfl
theorem cj{H:Type}{enc:TypeId×Value->H}{w:World}{fuel:Nat}{a:Option Addr}{n cap:Nat}{x:DataW H×List MemPlace}(hf:DataW.trod enc prog w 0 (fun _=>true) true fuel 23 [.slice a n cap]=some x)(hw:∀m∈x.1.weights prog 23,m<=reachBytes):
  n<=cap/\n<=140737488355328/\∃L:List KD,Ss 3 KD.cells w a n L/\∀c∈L,yw c.fl:=by
 obtain⟨h1,h2,h3,L,h4,h5⟩:=rQ (by omega) underlying23 cX KD.cells (fun c:KD=>yw c.fl) (fun fuel cs x hl ht hx=>by
  match cs,hl with
  |[c0,c1,c2],_=>
   obtain⟨xs,k,_,R6,_,ZR,hg⟩:=DataW.trod_struct underlying75 ht;subst R6
   match xs,ZR with
   |[y0,y1,y2],_=>
    have g0:DataW.trod enc prog w 0 (fun _=>true) true k 3 [c0]=some y0:=hg 0 _ rfl;have g1:DataW.trod enc prog w 0 (fun _=>true) true k 3 [c1]=some y1:=hg 1 _ rfl;have g2:DataW.trod enc prog w 0 (fun _=>true) true k 3 [c2]=some y2:=hg 2 _ rfl
    have VG:∀m∈DataW.weightsEach prog [3,3,3] [y0.1,y1.1,y2.1],m<=reachBytes:=fun m hm=>hx m (by
     simp only[DataW.weights,underlying75];exact hm)
    obtain⟨e0,rfl,w0⟩:=vV underlying3 g0;obtain⟨e1,rfl,w1⟩:=vV underlying3 g1;obtain⟨e2,rfl,w2⟩:=vV underlying3 g2;exact⟨⟨e0,e1,e2⟩,rfl,kN w0⟩) hf hw
 have hb:=c8;rw[rR]at h3;exact⟨h1,by have:=Nat.mul_le_mul_left n hb;omega,L,h4,h5⟩
theorem aU:16<=prog.bytesOf 68:=of_decide_eq_true (by kernel_rfl)
theorem aY:prog.cellsOf 68=3:=by kernel_rfl
theorem D3p{H:Type}{enc:TypeId×Value->H}{w:World}{fuel:Nat}{a:Option Addr}{n cap:Nat}{x:DataW H×List MemPlace}(hf:DataW.trod enc prog w 0 (fun _=>true) true fuel 63 [.slice a n cap]=some x)(hw:∀m∈x.1.weights prog 63,m<=reachBytes):
  n<=cap/\n<=140737488355328/\∃L:List KP,Ss 3 KP.cells w a n L/\∀c∈L,(c.Rd w/\c.ln<=140737488355328/\c.sn<=140737488355328):=by
 obtain⟨h1,h2,h3,L,h4,h5⟩:=rQ (by omega) underlying63 aY KP.cells (fun c:KP=>(c.Rd w/\c.ln<=140737488355328/\c.sn<=140737488355328)) (fun fuel cs x hl ht hx=>by
  match cs,hl with
  |[c0,c1,c2],_=>
   obtain⟨xs,k,_,R6,_,ZR,hg⟩:=DataW.trod_struct underlying68 ht;subst R6
   match xs,ZR with
   |[y0,y1,y2],_=>
    have g0:DataW.trod enc prog w 0 (fun _=>true) true k 3 [c0]=some y0:=hg 0 _ rfl;have g1:DataW.trod enc prog w 0 (fun _=>true) true k 66 [c1]=some y1:=hg 1 _ rfl;have g2:DataW.trod enc prog w 0 (fun _=>true) true k 66 [c2]=some y2:=hg 2 _ rfl
    have VG:∀m∈DataW.weightsEach prog [3,66,66] [y0.1,y1.1,y2.1],m<=reachBytes:=fun m hm=>hx m (by
     simp only[DataW.weights,underlying68];exact hm)
    obtain⟨e0,rfl,w0⟩:=vV underlying3 g0;obtain⟨a1,n1,k1,rfl⟩:=se underlying66 g1;obtain⟨h1a,Bv,L1,zC,h1d⟩:=iR g1 fun m hm=>VG m (DataW.weights_mem_each (j:=1) rfl rfl m hm)
    obtain⟨a2,n2,k2,rfl⟩:=se underlying66 g2;obtain⟨h2a,Az,L2,Ae,h2d⟩:=iR g2 fun m hm=>VG m (DataW.weights_mem_each (j:=2) rfl rfl m hm)
    exact⟨⟨e0,a1,n1,k1,L1,a2,n2,k2,L2⟩,rfl,⟨⟨zC,Ae⟩,Bv,Az⟩⟩) hf hw
 have hb:=aU;rw[rR]at h3;exact⟨h1,by have:=Nat.mul_le_mul_left n hb;omega,L,h4,h5⟩
theorem bH:16<=prog.bytesOf 65:=of_decide_eq_true (by kernel_rfl)
theorem bu:prog.cellsOf 65=8:=by kernel_rfl
theorem aV{H:Type}{enc:TypeId×Value->H}{w:World}{fuel:Nat}{a:Option Addr}{n cap:Nat}{x:DataW H×List MemPlace}(hf:DataW.trod enc prog w 0 (fun _=>true) true fuel 24 [.slice a n cap]=some x)(hw:∀m∈x.1.weights prog 24,m<=reachBytes):
  n<=cap/\n<=140737488355328/\∃L:List KM,Ss 8 KM.cells w a n L/\∀c∈L,(c.Rd w/\yw c.fl/\c.cn<=140737488355328/\c.tn<=140737488355328/\c.mn<=140737488355328/\∀p∈c.maps,p.ln<=140737488355328/\p.sn<=140737488355328):=by
 obtain⟨h1,h2,h3,L,h4,h5⟩:=rQ (by omega) underlying24 bu KM.cells (fun c:KM=>(c.Rd w/\yw c.fl/\c.cn<=140737488355328/\c.tn<=140737488355328/\c.mn<=140737488355328/\∀p∈c.maps,p.ln<=140737488355328/\p.sn<=140737488355328)) (fun fuel cs x hl ht hx=>by
  match cs,hl with
  |[c0,c1,c2,c3,c4,c5,c6,c7],_=>
   obtain⟨xs,k,_,R6,_,ZR,hg⟩:=DataW.trod_struct underlying65 ht;subst R6
   match xs,ZR with
   |[y0,y1,y2,y3,y4,y5,y6,y7],_=>
    have g0:DataW.trod enc prog w 0 (fun _=>true) true k 3 [c0]=some y0:=hg 0 _ rfl;have g1:DataW.trod enc prog w 0 (fun _=>true) true k 3 [c1]=some y1:=hg 1 _ rfl;have g2:DataW.trod enc prog w 0 (fun _=>true) true k 3 [c2]=some y2:=hg 2 _ rfl;have g3:DataW.trod enc prog w 0 (fun _=>true) true k 3 [c3]=some y3:=hg 3 _ rfl;have g4:DataW.trod enc prog w 0 (fun _=>true) true k 3 [c4]=some y4:=hg 4 _ rfl;have g5:DataW.trod enc prog w 0 (fun _=>true) true k 43 [c5]=some y5:=hg 5 _ rfl;have g6:DataW.trod enc prog w 0 (fun _=>true) true k 62 [c6]=some y6:=hg 6 _ rfl;have g7:DataW.trod enc prog w 0 (fun _=>true) true k 63 [c7]=some y7:=hg 7 _ rfl
    have VG:∀m∈DataW.weightsEach prog [3,3,3,3,3,43,62,63] [y0.1,y1.1,y2.1,y3.1,y4.1,y5.1,y6.1,y7.1],m<=reachBytes:=fun m hm=>hx m (by
     simp only[DataW.weights,underlying65];exact hm)
    obtain⟨e0,rfl,w0⟩:=vV underlying3 g0;obtain⟨e1,rfl,w1⟩:=vV underlying3 g1;obtain⟨e2,rfl,w2⟩:=vV underlying3 g2;obtain⟨e3,rfl,w3⟩:=vV underlying3 g3;obtain⟨e4,rfl,w4⟩:=vV underlying3 g4;obtain⟨a5,n5,k5,rfl⟩:=se underlying43 g5;obtain⟨zU,zK,L5,Bp,h5d⟩:=bY g5 fun m hm=>VG m (DataW.weights_mem_each (j:=5) rfl rfl m hm)
    obtain⟨a6,n6,k6,rfl⟩:=se underlying62 g6;obtain⟨h6a,Bw,L6,zF,h6d⟩:=D1q g6 fun m hm=>VG m (DataW.weights_mem_each (j:=6) rfl rfl m hm)
    obtain⟨a7,n7,k7,rfl⟩:=se underlying63 g7;obtain⟨h7a,zm,L7,An,Du⟩:=D3p g7 fun m hm=>VG m (DataW.weights_mem_each (j:=7) rfl rfl m hm)
    exact⟨⟨e0,e1,e2,e3,e4,a5,n5,k5,L5,a6,n6,k6,L6,a7,n7,k7,L7⟩,rfl,⟨⟨Bp,zU,zF,An,fun p hp=>(Du p hp).1⟩,kN w0,zK,Bw,zm,fun p hp=>(Du p hp).2⟩⟩) hf hw
 have hb:=bH;rw[rR]at h3;exact⟨h1,by have:=Nat.mul_le_mul_left n hb;omega,L,h4,h5⟩
theorem bK:prog.cellsOf 26=5:=by kernel_rfl
structure eF(w:World)(f:KF):Prop where
 rd:f.Rd w
 big:f.Big
 num:∀c∈f.pool,-9223372036854775808<=c.n/\c.n<=9223372036854775807
 fl:∀d∈f.fields,yw d.fl
 mfl:∀m∈f.methods,yw m.fl
theorem open_file{H:Type}{enc:TypeId×Value->H}{w:World}{r:Reach}{b0:Nat}{v:Value}{d:DataW H}{p:List MemPlace}(hv:Value.okWide prog w r b0 26 v)(h:DataW.Trod enc prog w 0 (fun _=>true) true 26 v d p)(hw:∀m∈d.weights prog 26,m<=reachBytes):
  ∃x:KF,v= .agg x.vals/\eF w x:=by
 obtain⟨cs,rfl,hsz⟩:=okWide_struct underlying26 hv;obtain⟨fuel,hf⟩:=h;obtain⟨cl⟩:=cs;have hl:cl.length=5:=hsz.trans bK
 match cl,hl with
 |[c0,c1,c2,c3,c4],_=>
  have hf:DataW.trod enc prog w 0 (fun _=>true) true fuel 26 [c0,c1,c2,c3,c4]=some (d,p):=hf;obtain⟨xs,k,_,R6,_,ZR,hg⟩:=DataW.trod_struct underlying26 hf
  match xs,ZR with
  |[y0,y1,y2,y3,y4],_=>
   have g0:DataW.trod enc prog w 0 (fun _=>true) true k 22 [c0]=some y0:=hg 0 _ rfl;have g1:DataW.trod enc prog w 0 (fun _=>true) true k 3 [c1]=some y1:=hg 1 _ rfl;have g2:DataW.trod enc prog w 0 (fun _=>true) true k 3 [c2]=some y2:=hg 2 _ rfl;have g3:DataW.trod enc prog w 0 (fun _=>true) true k 23 [c3]=some y3:=hg 3 _ rfl;have g4:DataW.trod enc prog w 0 (fun _=>true) true k 24 [c4]=some y4:=hg 4 _ rfl;have hd:d= .agg [y0.1,y1.1,y2.1,y3.1,y4.1]:=congrArg Prod.fst R6;subst hd
   have VG:∀m∈DataW.weightsEach prog [22,3,3,23,24] [y0.1,y1.1,y2.1,y3.1,y4.1],m<=reachBytes:=fun m hm=>hw m (by
    simp only[DataW.weights,underlying26];exact hm)
   obtain⟨a0,n0,k0,rfl⟩:=se underlying22 g0;obtain⟨e1,rfl,w1⟩:=vV underlying3 g1;obtain⟨e2,rfl,w2⟩:=vV underlying3 g2;obtain⟨a3,n3,k3,rfl⟩:=se underlying23 g3;obtain⟨a4,n4,k4,rfl⟩:=se underlying24 g4;obtain⟨_,i0,L0,s0,q0⟩:=cR g0 fun m hm=>VG m (DataW.weights_mem_each (j:=0) rfl rfl m hm)
   obtain⟨_,i3,L3,s3,q3⟩:=cj g3 fun m hm=>VG m (DataW.weights_mem_each (j:=3) rfl rfl m hm)
   obtain⟨_,i4,L4,s4,q4⟩:=aV g4 fun m hm=>VG m (DataW.weights_mem_each (j:=4) rfl rfl m hm)
   exact⟨⟨a0,n0,k0,L0,e1,e2,a3,n3,k3,L3,a4,n4,k4,L4⟩,rfl,⟨s0,s3,s4,fun m hm=>(q4 m hm).1⟩,⟨i0,i3,i4,fun c hc=>(q0 c hc).2,fun m hm=>(q4 m hm).2.2⟩,fun c hc=>(q0 c hc).1,q3,fun m hm=>(q4 m hm).2.1⟩
end
section
open Go.ChangeShapes Go.WideShapes Go.ChangeAt Go.RowKit
theorem ez{l:List Nat}{x:Nat}(h:x∈l):x<=l.sum:=by
 induction l with
 |nil=>cases h
 |cons y t ih=>
  rw[List.sum_cons]
  rcases List.mem_cons.1 h with rfl|h
  ·omega
  have:=ih h;omega
theorem D8j{l:List KP}{p:KP}(h:p∈l):10+p.ln+p.sn<=uq l:=ez (List.mem_map.2 ⟨p,h,rfl⟩)
theorem D9j{l:List KM}{m:KM}(h:m∈l):m.cn+10*m.tn+uq m.maps<=tA l:=ez (List.mem_map.2 ⟨m,h,rfl⟩)
theorem D1v(l:List KP):10*l.length<=uq l:=by
 unfold uq
 induction l with
 |nil=>simp
 |cons p t ih=>rw[List.map_cons,List.sum_cons,List.length_cons];unfold kw at ih⊢;omega
theorem nw.fit{f:KF}{w:World}(h:nw f)(hr:f.Rd w)(h1:∀d∈f.fields,yw d.fl)(h2:∀m∈f.methods,yw m.fl):f.Fit:=by
 obtain⟨a1,a2,a3,a4,a5⟩:=h;refine⟨by omega,fun i hi=> ?_,by omega,by omega,h1,fun m hm=> ?_⟩
 ·have hl:i<f.pool.length:=by rw[hr.pool.1];exact hi
  rw[uZ f.pool i hl];exact Nat.le_trans (a4 _ (List.getElem_mem hl)) (by omega)
 have c1:=D9j hm;have c2:=D1v m.maps;have c3:=(hr.each m hm).maps.1;refine⟨h2 m hm,by unfold maxLen;omega,by omega,by omega,fun p hp=> ?_⟩;have c4:=D8j hp;exact⟨by omega,by omega⟩
end
end Go.Proofs.YtclpkipaehpkdaaGreatDoor
