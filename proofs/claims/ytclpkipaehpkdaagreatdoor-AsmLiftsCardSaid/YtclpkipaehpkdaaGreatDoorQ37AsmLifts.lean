/- asm: own texts, merged (wip/merge3.py). No condition. -/
import Derived.Test.YtclpkipaehpkdaaGreatDoorQ35AsmLifts
import Derived.Test.YtclpkipaehpkdaaGreatDoorRows
import Derived.SizedLaws
import Derived.LaidHandle
import Derived.OpenShut
import Derived.Lib.SmallJoins
import Derived.WideShapes
import Derived.ProofKit
import Derived.Test.YtclpkipaehpkdaaGreatDoorQ36AsmLifts
set_option linter.unusedVariables false
set_option linter.unusedSimpArgs false
set_option maxRecDepth 100000
set_option maxHeartbeats 64000000
namespace Go.Proofs.YtclpkipaehpkdaaGreatDoor
section
open Go.ChangeShapes Go.WideShapes Go.ChangeAt Go.RowKit Go.Joins Go.Deep
section
variable {H:Type} {enc:TypeId×Value→H} {w:World} {r:Reach} {b0:Nat} {v:Value} {d:DataW H} {p:List MemPlace}
end
theorem vw_of{W:World}{r:List (String×DataW Unit)}(hsh:W.ShapedOpen Tryz.prog)(_:laidMet Tryz.prog r W):VW W:=
 ⟨cell_of_shapedOpen_int (t:=3) (k:= .i64) hsh (g:=0) (of_decide_eq_true (by kernel_rfl)) (zero:= #[.int .i64 0]) (by kernel_rfl) rfl (by kernel_rfl) (by kernel_rfl) Tryz.underlying3⟩
theorem handed_and_shaped{H:Type}{enc:TypeId×Value→H}{a:Assume}{C:Checked}{os:Os}{f:FuncId}{fn:Func}{s:ChangeSpec}{conds:List PathCond}{apart fresh handsOn again:Bool}{X:World→Array Value→Prop}
  (hX:∀(w w':World) (args:Array Value),w.heap=w'.heap→X w args→X w' args)
  (own:ownKnob C.prog.godebug=none) (started:os.Started) (noInit:C.prog.inits.idxOf? f=none) (hfn:C.prog.funcs[f]? =some fn)
  (witness:∃(w:World) (tape:Tape) (i:Input),w.os=os∧(w.forCall tape i).Shaped C.prog∧i.vars=[]∧Input.okWide C.prog (w.forCall tape i) .any w.heap.size f i∧
   ((s.pre enc C.prog fn conds apart (w.forCall tape i).memory i.args∧X (w.forCall tape i).memory i.args)∧sizedMet enc C.prog fn (OpenSpec.ofChange s) apart (w.forCall tape i).memory i.args)∧a.holds C.prog (lone (Frame.enter C.prog f i.args .normal) [] (w.forCall tape i)))
  (contract:∀(W:World) (base:Nat) (args:Array Value) (ds gs:List (DataW H)) (before:List MemPlace),
   (∀(j:Nat) t v,fn.params[j]? =some t→args[j]? =some v→Value.okWide C.prog W .any base t v)→
   DataW.Whole enc C.prog fn.params.toList s.vars apart W args.toList ds gs before→
   conds.all (PathCond.test C.prog ⟨fn.params.toList,ds,s.plain.varTypes C.prog,gs⟩)=true→
   (DataW.weightsEach C.prog (fn.params.toList++s.plain.varTypes C.prog) (ds++gs)).all (·≤reachBytes)=true→X W args→W.ShapedOpen C.prog→
   a.holds C.prog (lone (Frame.enter C.prog f args .normal) [] W)→
   Calls C.prog f args W fun e W'=>∃v,e= .returned v∧s.post enc C.prog fn apart fresh handsOn again W args v W'):
  ReturnsInHanded a C os f .any (fun w args=>(s.pre enc C.prog fn conds apart w args∧X w args)∧sizedMet enc C.prog fn (OpenSpec.ofChange s) apart w args) (s.post enc C.prog fn apart fresh handsOn again):=by
 refine returnsInHanded_of_calls own started noInit witness ?_;intro w tape i _ hsh _ hok hpre hholds;obtain⟨_,_,_,fn',hfn',_,_,_,_,hval⟩:=hok;have e:fn'=fn:=Option.some.inj (hfn'.symm.trans hfn)
 subst e;obtain⟨⟨⟨ds,gs,before,hw,hc⟩,hx⟩,hz⟩:=hpre;have hw':=DataW.Whole.of_heap (w':=w.forCall tape i) (by rfl) hw
 refine(contract (w.forCall tape i) w.heap.size i.args ds gs before hval hw' hc (hz.weights hw) (hX _ _ _ (by rfl) hx) hsh hholds).mono fun e W' ⟨v,he,hp⟩=> ?_
 subst he;exact ChangeSpec.post_blind hp
end
section
open Go.ChangeShapes Go.WideShapes Go.ChangeAt Go.RowKit
abbrev FlT:=26
theorem D8j{f:KF}(h:∀c∈f.pool,-9223372036854775808≤c.n∧c.n≤9223372036854775807)(i:Int):A3m (kAt f.pool i).n:=by
 unfold kAt;by_cases hl:i.toNat<f.pool.length
 ·have e:f.pool.getD i.toNat kz=f.pool[i.toNat]:=by simp[List.getD,hl]
  rw[e];exact A1i (h _ (List.getElem_mem hl))
 ·rw[List.getD_eq_getElem?_getD,List.getElem?_eq_none (by omega)];exact A1i (by decide)
theorem walk_AsmLifts(f:KF)(w:World)(h0:D5e w f)(hv:VW w):
  Calls Tryz.prog 3 #[.agg f.vals] w fun e w'=>e= .returned (.bool true)∧Below w.heap.size w w':=by
 obtain⟨hr,hbig,hnum,hfl,hmf⟩:=h0;have HX:=Lib.hid hr;have HBG:=Lib.hid hbig;have HNR:=Lib.hid (D8j hnum);have HFL:=Lib.hid hfl;have HMF:=Lib.hid hmf;have HV:=Lib.hid hv
 have hal0:=A0e w (.cells #[.slice f.pa f.pn f.pc,.int .i64 f.th,.int .i64 f.su,.slice f.fa f.fn f.fc,.slice f.ma f.mn f.mc] FlT)
 have HT0:=Lib.hid (show(w.alloc (.cells #[.slice f.pa f.pn f.pc,.int .i64 f.th,.int .i64 f.su,.slice f.fa f.fn f.fc,.slice f.ma f.mn f.mc] FlT)).heap[w.heap.size]? =some (.cells f.cells.toArray FlT (0,0))from heap_alloc_last w _)
 have HB0:=Lib.hid hal0;clear hal0 hr hbig hnum hfl hmf hv;change Calls Tryz.prog 3 #[.agg #[.slice f.pa f.pn f.pc,.int .i64 f.th,.int .i64 f.su,.slice f.fa f.fn f.fc,.slice f.ma f.mn f.mc]] w _
 go_enter Tryz.func3,Tryz.ntmps3
 go_upto_region 1 with fail
 generalize w.alloc (.cells #[.slice f.pa f.pn f.pc,.int .i64 f.th,.int .i64 f.su,.slice f.fa f.fn f.fc,.slice f.ma f.mn f.mc] FlT)=w0 at*;obtain⟨bf,hbf⟩:∃b,b=w.heap.size:=⟨_,rfl⟩
 rw[←hbf]at HT0⊢;clear hbf;have HFX:=Lib.hid (C8j w0 (HV.out.below HB0.out))
 go_wp2_with fail
 refine HFX.out.mono ?_;rintro e w1 ⟨rfl,hb1⟩;have HB1:=Lib.hid (HB0.out.trans (hb1.mono HB0.out.size));have HT1:=Lib.hid (A0c HT0.out hb1);clear hb1 HFX HT0 HB0;have k0:=A0a HT1.out 0 rfl
 have k1:=A0a HT1.out 1 rfl;have k2:=A0a HT1.out 2 rfl;have k3:=A0a HT1.out 3 rfl;have k4:=A0a HT1.out 4 rfl;dsimp only[KF.cells]at k0 k1 k2 k3 k4
 have HFW:=Lib.hid (D3p w1 f (HX.out.below HB1.out) HBG.out);unfold KF.vals at HFW
 go_wp2_with fail
 refine HFW.out.mono ?_;rintro e w2 ⟨bw,rfl,hb2,hfw⟩;have HB2:=Lib.hid (HB1.out.trans (hb2.mono HB1.out.size));have HT2:=Lib.hid (A0c HT1.out hb2);have HFEW:=Lib.hid hfw
 clear hb2 hfw HFW HT1 HB1 k0 k1 k2 k3 k4
 cases bw with
 |false=>
  go_wp2_with fail
  go_ret;exact⟨rfl,HB2.out⟩
 |true=>
 have HFIT:=Lib.hid ((HFEW.out rfl).fit HX.out HFL.out HMF.out);have HTX:=Lib.hid (B1n HX.out HFIT.out);have k0:=A0a HT2.out 0 rfl;have k1:=A0a HT2.out 1 rfl
 have k2:=A0a HT2.out 2 rfl;have k3:=A0a HT2.out 3 rfl;have k4:=A0a HT2.out 4 rfl;dsimp only[KF.cells]at k0 k1 k2 k3 k4
 have HLF:=Lib.hid (B5n w2 f (HX.out.below HB2.out) HFIT.out (HV.out.below HB2.out) HTX.out)
 go_wp2_with fail
 refine HLF.out.mono ?_;rintro e w3 ⟨u,er,rfl,q1,q2,q3,-,q5,hb3⟩;have HB3:=Lib.hid (HB2.out.trans (hb3.mono HB2.out.size));have HT3:=Lib.hid (A0c HT2.out hb3);have HUR:=Lib.hid q5.rd
 have HQ:=Lib.hid (And.intro q1 (And.intro q2 q3));clear hb3 q1 q2 q3 q5 HLF HT2 HB2 HFEW k0 k1 k2 k3 k4;obtain⟨unm,usu,ufa,ufn,ufc,ufs,uma,umn,umc,ums⟩:=u;dsimp only[UU.cells]
 go_upto_region 6 with fail
 have hal:=A0e w3 (.cells #[.string ⟨unm.toArray⟩,.string ⟨usu.toArray⟩,.slice ufa ufn ufc,.slice uma umn umc] A1y);have HB4:=Lib.hid (HB3.out.trans (hal.mono HB3.out.size))
 have HT4:=Lib.hid (A0c HT3.out hal);have HU4:=Lib.hid (HUR.out.below hal)
 have HG4:=Lib.hid (heap_alloc_last w3 (.cells #[.string ⟨unm.toArray⟩,.string ⟨usu.toArray⟩,.slice ufa ufn ufc,.slice uma umn umc] A1y));clear hal HB3 HT3 HUR
 generalize w3.alloc (.cells #[.string ⟨unm.toArray⟩,.string ⟨usu.toArray⟩,.slice ufa ufn ufc,.slice uma umn umc] A1y)=w4 at*;generalize w3.heap.size=gu at*;have k0:=A0a HT4.out 0 rfl
 have k1:=A0a HT4.out 1 rfl;have k2:=A0a HT4.out 2 rfl;have k3:=A0a HT4.out 3 rfl;have k4:=A0a HT4.out 4 rfl;dsimp only[KF.cells]at k0 k1 k2 k3 k4
 have HRL:=Lib.hid (D0k w4 f (HX.out.below HB4.out) HFIT.out HBG.out)
 go_wp2_with fail
 refine HRL.out.mono ?_;rintro e w5 ⟨v,ok,rfl,q1,q2,-,hb5⟩;have HB5:=Lib.hid (HB4.out.trans (hb5.mono HB4.out.size));have HU5:=Lib.hid (HU4.out.below hb5);have HG5:=Lib.hid (A0c HG4.out hb5)
 have HOK:=Lib.hid q1;have HVR:=Lib.hid q2;clear hb5 q1 q2 HRL HB4 HT4 HU4 HG4 k0 k1 k2 k3 k4;obtain⟨vnm,vsu,vfa,vfn,vfc,vfs,vma,vmn,vmc,vms⟩:=v;dsimp only[UU.cells]
 go_upto_region 7 with fail
 have hal:=A0e w5 (.cells #[.string ⟨vnm.toArray⟩,.string ⟨vsu.toArray⟩,.slice vfa vfn vfc,.slice vma vmn vmc] A1y);have HB6:=Lib.hid (HB5.out.trans (hal.mono HB5.out.size))
 have HU6:=Lib.hid (HU5.out.below hal);have HG6:=Lib.hid (A0c HG5.out hal);have HV6:=Lib.hid (fun h=>(HVR.out h).2.rd.below hal)
 have HGV:=Lib.hid (heap_alloc_last w5 (.cells #[.string ⟨vnm.toArray⟩,.string ⟨vsu.toArray⟩,.slice vfa vfn vfc,.slice vma vmn vmc] A1y));have HVP:=Lib.hid (fun h=>(HVR.out h).1);clear hal HB5 HU5 HG5 HVR
 generalize w5.alloc (.cells #[.string ⟨vnm.toArray⟩,.string ⟨vsu.toArray⟩,.slice vfa vfn vfc,.slice vma vmn vmc] A1y)=w6 at*;generalize w5.heap.size=gv at*;have z0:=A0a HG6.out 0 rfl
 have z1:=A0a HG6.out 1 rfl;have z2:=A0a HG6.out 2 rfl;have z3:=A0a HG6.out 3 rfl;have y0:=A0a HGV.out 0 rfl;have y1:=A0a HGV.out 1 rfl;have y2:=A0a HGV.out 2 rfl
 have y3:=A0a HGV.out 3 rfl;obtain⟨q1,q2,q3⟩:=HQ.out;by_cases he:er=0
 ·subst he;obtain rfl:ok=true:=by rw[HOK.out];exact q1.1 rfl
  have HUP:=Lib.hid (q2 rfl)
  have HSM:=Lib.hid (B5m w6 ⟨unm,usu,ufa,ufn,ufc,ufs,uma,umn,umc,ums⟩ ⟨vnm,vsu,vfa,vfn,vfc,vfs,vma,vmn,vmc,vms⟩ HU6.out (HV6.out rfl) (HUP.out.trans (HVP.out rfl).symm) (D1u HUP.out (q1.1 rfl) HTX.out HNR.out))
  clear q1 q2 q3 HOK
  go_wp2_with fail
  refine HSM.out.mono ?_;rintro e w7 ⟨rfl,hb7⟩;have HB7:=Lib.hid (HB6.out.trans (hb7.mono HB6.out.size));clear hb7
  go_wp2_with fail
  go_ret;exact⟨rfl,HB7.out⟩
 ·obtain rfl:ok=false:=by
   rw[HOK.out,Bool.eq_false_iff];exact fun h=>he (q1.2 h)
  have e8:(er !=0)=true:=by simp[he]
  have HSM:=Lib.hid (B5m w6 ⟨unm,usu,ufa,ufn,ufc,ufs,uma,umn,umc,ums⟩ u0 HU6.out (E0d w6) (by rw[q3 he]) (by rw[q3 he];exact D5k));clear q1 q2 q3 HOK he
  go_wp2_with fail
  refine HSM.out.mono ?_;rintro e w7 ⟨rfl,hb7⟩;have HB7:=Lib.hid (HB6.out.trans (hb7.mono HB6.out.size));clear hb7
  go_wp2_with fail
  go_ret;exact⟨rfl,HB7.out⟩
end
end Go.Proofs.YtclpkipaehpkdaaGreatDoor
