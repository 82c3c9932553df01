/- asm -/
import Derived.Test.YtclpkipaehpkdaaGreatDoorQ20AsmBack
import Derived.Test.YtclpkipaehpkdaaGreatDoorQ18AsmBack
import Derived.LaidHandle
import Derived.WideShapes
import Derived.ChangeArms
set_option linter.unusedVariables false
set_option linter.unusedSimpArgs false
set_option maxRecDepth 100000
set_option maxHeartbeats 64000000
open Go.Proofs.Tryz
namespace Go.Proofs.YtclpkipaehpkdaaGreatDoor
section
open Go.ChangeShapes Go.WideShapes Go.ChangeAt Go.RowKit
theorem UM.Fit.rows{m:UM}{w:World}(hf:m.Fit)(hr:m.Rd w):∀p∈m.maps,p.ln<=1000000000/\p.sn<=1000000000:=by
 intro p hp;have h1:=(hr.each p hp).loc.1;have h2:=(hr.each p hp).stk.1;have h3:=(hf.mp p hp).loc;have h4:=(hf.mp p hp).stk;omega
theorem ii(w:World)(x y:UU)(hx:x.Rd w)(hy:y.Rd w)(hp:x.p=y.p)(hb:x.Fit):
  Calls prog 12 #[.agg x.cells.toArray,.agg y.cells.toArray] w (yS true w):=by
 have HX:=Z' hx;have HY:=Z' hy;have hfn:=hb.fields;have Rn:=hb.methods;have Ev:=Z' hb.mt;have l2:=hx.fields.1;have l3:=hx.methods.1;have r2:=hy.fields.1;have r3:=hy.methods.1;clear hx hy hb;obtain⟨nm,su,fa,fn,fc,fields,ma,mn,mc,methods⟩:=x;obtain⟨Zs,DB,Jx,F8,Jy,PJ,Jz,Es,JL,QW⟩:=y;simp only[UU.p,UU.mk.injEq]at hp;obtain⟨rfl,rfl,-,-,-,rfl,-,-,-,VL⟩:=hp;dsimp only at*;have l4:=congrArg List.length VL;rw[List.length_map,List.length_map]at l4;obtain rfl:fn=F8:=by omega
 obtain rfl:mn=Es:=by omega
 have KH:fn<=1024:=by omega
 have hmn':mn<=1024:=by omega
 have Ux:=Z' VL;unfold UU.cells;dsimp only;clear l2 l3 r2 r3 l4 VL hfn Rn;have Ta:Below w.heap.size w (w.alloc (.cells #[.string ⟨nm.toArray⟩,.string ⟨su.toArray⟩,.slice fa fn fc,.slice ma mn mc] 32)):=yV _ _;have SS:=yV (w.alloc (.cells #[.string ⟨nm.toArray⟩,.string ⟨su.toArray⟩,.slice fa fn fc,.slice ma mn mc] 32)) (.cells #[.string ⟨nm.toArray⟩,.string ⟨su.toArray⟩,.slice Jx fn Jy,.slice Jz mn JL] 32);have Y3:=Z' (yW (heap_alloc_last w (.cells #[.string ⟨nm.toArray⟩,.string ⟨su.toArray⟩,.slice fa fn fc,.slice ma mn mc] 32)) SS);have Y':=heap_alloc_last (w.alloc (.cells #[.string ⟨nm.toArray⟩,.string ⟨su.toArray⟩,.slice fa fn fc,.slice ma mn mc] 32)) (.cells #[.string ⟨nm.toArray⟩,.string ⟨su.toArray⟩,.slice Jx fn Jy,.slice Jz mn JL] 32);rw[show(w.alloc (.cells #[.string ⟨nm.toArray⟩,.string ⟨su.toArray⟩,.slice fa fn fc,.slice ma mn mc] 32)).heap.size=w.heap.size+1 by simp]at Y';replace Y':=Z' Y';have Zp:=Z' (Ta.trans (SS.mono Ta.size));clear Ta SS;go_enter func12,ntmps12
 go_upto_region 1 with fail
 generalize(w.alloc (.cells #[.string ⟨nm.toArray⟩,.string ⟨su.toArray⟩,.slice fa fn fc,.slice ma mn mc] 32)).alloc (.cells #[.string ⟨nm.toArray⟩,.string ⟨su.toArray⟩,.slice Jx fn Jy,.slice Jz mn JL] 32)=W0 at*;obtain⟨u1,Ps⟩:∃b,b=w.heap.size:=⟨_,rfl⟩;obtain⟨u2,MJ⟩:∃b,b=w.heap.size+1:=⟨_,rfl⟩;rw[<-Ps]at Y3;rw[<-MJ]at Y';rw[<-MJ,<-Ps];clear Ps MJ
 go_cut [36] (fun r wx=>r= .bool false/\wx=W0)
 case first=>
  have k0:=y8 Y3.out 0 rfl;have j0:=y8 Y'.out 0 rfl;have k1:=y8 Y3.out 1 rfl;have j1:=y8 Y'.out 1 rfl;have k2:=y8 Y3.out 2 rfl;have j2:=y8 Y'.out 2 rfl;have k3:=y8 Y3.out 3 rfl;have j3:=y8 Y'.out 3 rfl;dsimp at k0 j0 k1 j1 k2 j2 k3 j3;have e1:=qv nm;have e2:=qv su;have e3:((fn:Int) !=(fn:Int))=false:=by simp
  have e4:((mn:Int) !=(mn:Int))=false:=by simp
  go_wp2_with fail
  go_meet;exact⟨by simp,rfl⟩
 obtain⟨rfl,rfl⟩:=hcut;have k2:=y8 Y3.out 2 rfl;dsimp at k2
 go_wp2_with fail
 clear k2
 go_loopg [40] fn (fun gn i wr=>∃j:Nat,j<=fn/\gn=fn-j/\i= .int .i64 j/\Hid (Below wc.heap.size wc wr))
 case atStart=>exact⟨0,by omega,by omega,by go_num,Z' Z6⟩
 obtain⟨j,hj,rfl,rfl,HB⟩:=hrel;have Um:=Z7 Zp HB.out;by_cases ZX:j<fn
 ·skip
  obtain⟨b1,YR,x,rfl,_,hv,p⟩:=Ss.getC (HX.out.fields.below Um.out) j ZX;obtain⟨b2,Zf,y,rfl,_,Wj,q⟩:=Ss.getC (HY.out.fields.below Um.out) j ZX;obtain rfl:x=y:=by rw[hv]at Wj;exact Option.some.inj Wj
  obtain⟨fl,nx,dx⟩:=x;have p0:wr.cell? ⟨b1,YR+j*3,none⟩=some (.bool fl):=p 0 (by omega);have p1:wr.cell? ⟨b1,YR+j*3+1,none⟩=some (.string ⟨nx.toArray⟩):=p 1 (by omega);have p2:wr.cell? ⟨b1,YR+j*3+2,none⟩=some (.string ⟨dx.toArray⟩):=p 2 (by omega);have q0:wr.cell? ⟨b2,Zf+j*3,none⟩=some (.bool fl):=q 0 (by omega);have q1:wr.cell? ⟨b2,Zf+j*3+1,none⟩=some (.string ⟨nx.toArray⟩):=q 1 (by omega);have q2:wr.cell? ⟨b2,Zf+j*3+2,none⟩=some (.string ⟨dx.toArray⟩):=q 2 (by omega);have k6:=y8 (yW Y3.out HB.out) 2 rfl;have j6:=y8 (yW Y'.out HB.out) 2 rfl;dsimp at k6 j6;clear p q hv Wj;have XZ:(j:Int)<fn:=by omega
  go_upto_region 6 with fail
  have Z3:EqW wr.drew wr.drew:=rfl;have l0:=fun u (h:EqW wr.drew u)=>xv h p0
  have m0:=fun u (h:EqW wr.drew u)=>xv h q0
  have l1:=fun u (h:EqW wr.drew u)=>xv h p1
  have m1:=fun u (h:EqW wr.drew u)=>xv h q1
  have l2:=fun u (h:EqW wr.drew u)=>xv h p2
  have m2:=fun u (h:EqW wr.drew u)=>xv h q2
  have n0:=fun u (h:EqW wr.drew u)=>xv h k6
  have n1:=fun u (h:EqW wr.drew u)=>xv h j6
  have Sp:=Z' (fun u o1 o2=>ci u fl nx dx o1 o2);clear p0 q0 p1 q1 p2 q2 k6 j6
  refine ye (EqW wr.drew) (.stir [(0,true),(1,true),(2,true),(3,true),(4,true),(5,true),(6,true),(7,true),(8,true),(9,true),(10,true)]) (by kernel_rfl) (by kernel_rfl) (fun c a d v w h=>by cases d<;>exact h) ?_
  refine yA (EqW wr.drew) (fun y hy=>hy) rfl ?_
  iterate 10
   refine yH fun K hK=>tkX ?_
   go_simp
   try go_bits
   refine hK _ ?_;clear hK K
  refine yH (fun K hK=> ?_);simp only[xy,List.getElem?_toArray,List.getElem?_cons_succ,List.getElem?_cons_zero];rw[if_pos (by rfl)];refine⟨Value.bool false,fun w' Y7=> ?_,?_⟩
  ·exact np (by rfl) (Sp.out w' _ _)
  go_simp;refine hK _ ?_;clear hK K;refine yE (fun u hu=> ?_);obtain rfl:u=wr.drew:=hu;clear l0 m0 l1 m1 l2 m2 n0 n1 Sp Z3
  go_wp2_with fail
  go_roundg (fn-(j+1))
  case measure=>omega
  exact⟨j+1,by omega,rfl,by go_num,Z' HB.out.drew⟩
 obtain rfl:fn=j:=by omega
 have SY:=Z' (yW Y3.out HB.out);have Q2:=Z' (yW Y'.out HB.out);clear HB Zp Y3 Y';have k7:=y8 SY.out 3 rfl;dsimp at k7
 go_wp2_with fail
 clear k7;obtain⟨W8,Eg⟩:=Z8 (wr);subst Eg
 go_loopg [58] mn (fun gn i wr=>∃j:Nat,j<=mn/\gn=mn-j/\i= .int .i64 j/\Hid (Below W8.heap.size W8 wr))
 case atStart=>exact⟨0,by omega,by omega,by go_num,Z' Z6⟩
 obtain⟨j,hj,rfl,rfl,HB⟩:=hrel;have Pd:=Z7 Um HB.out;by_cases ZX:j<mn
 ·obtain⟨b1,YR,x,rfl,_,hv,p⟩:=Ss.getC (HX.out.methods.below Pd.out) j ZX;obtain⟨b2,Zf,y,rfl,_,Wj,q⟩:=Ss.getC (HY.out.methods.below Pd.out) j ZX;have N0:=eD Ux.out hv Wj;have Tu:=HX.out.each x (List.mem_of_getElem? hv);have N8:=HY.out.each y (List.mem_of_getElem? Wj);have QY:=Ev.out x (List.mem_of_getElem? hv);have LA:=Z' (fun w' (h:Below w.heap.size w w')=>dw w' x y (Tu.below h) (N8.below h) N0 QY (QY.rows Tu));clear N0 Tu N8 QY;obtain⟨st,nx,dx,sk,lo,ca,cn,cc,code,ta,tn,tc,traps,na,nn,nc,maps⟩:=x;obtain⟨ME,A7,Ah,CW,DX,Lj,Em,J4,J',JH,EZ,Ld,Nn,Le,D5,KJ,KG⟩:=y;dsimp only[UM.cells]at LA;have p0:wr.cell? ⟨b1,YR+j*8,none⟩=some (.bool st):=p 0 (by omega);have p1:wr.cell? ⟨b1,YR+j*8+1,none⟩=some (.string ⟨nx.toArray⟩):=p 1 (by omega);have p2:wr.cell? ⟨b1,YR+j*8+2,none⟩=some (.string ⟨dx.toArray⟩):=p 2 (by omega);have p3:wr.cell? ⟨b1,YR+j*8+3,none⟩=some (.int .i64 sk):=p 3 (by omega);have p4:wr.cell? ⟨b1,YR+j*8+4,none⟩=some (.int .i64 lo):=p 4 (by omega);have p5:wr.cell? ⟨b1,YR+j*8+5,none⟩=some (.slice ca cn cc):=p 5 (by omega);have p6:wr.cell? ⟨b1,YR+j*8+6,none⟩=some (.slice ta tn tc):=p 6 (by omega);have p7:wr.cell? ⟨b1,YR+j*8+7,none⟩=some (.slice na nn nc):=p 7 (by omega);have q0:wr.cell? ⟨b2,Zf+j*8,none⟩=some (.bool ME):=q 0 (by omega);have q1:wr.cell? ⟨b2,Zf+j*8+1,none⟩=some (.string ⟨A7.toArray⟩):=q 1 (by omega);have q2:wr.cell? ⟨b2,Zf+j*8+2,none⟩=some (.string ⟨Ah.toArray⟩):=q 2 (by omega);have q3:wr.cell? ⟨b2,Zf+j*8+3,none⟩=some (.int .i64 CW):=q 3 (by omega);have q4:wr.cell? ⟨b2,Zf+j*8+4,none⟩=some (.int .i64 DX):=q 4 (by omega);have q5:wr.cell? ⟨b2,Zf+j*8+5,none⟩=some (.slice Lj Em J4):=q 5 (by omega);have q6:wr.cell? ⟨b2,Zf+j*8+6,none⟩=some (.slice JH EZ Ld):=q 6 (by omega);have q7:wr.cell? ⟨b2,Zf+j*8+7,none⟩=some (.slice Le D5 KJ):=q 7 (by omega);have k3:=y8 (yW SY.out HB.out) 3 rfl;have j3:=y8 (yW Q2.out HB.out) 3 rfl;dsimp at k3 j3;clear p q hv Wj;have XZ:(j:Int)<mn:=by omega
  go_upto_region 12 with fail
  have Z3:Below wr.heap.size wr wr.drew:=Z6.drew;have l0:=fun u (h:Below wr.heap.size wr u)=>yF h p0
  have m0:=fun u (h:Below wr.heap.size wr u)=>yF h q0
  have l1:=fun u (h:Below wr.heap.size wr u)=>yF h p1
  have m1:=fun u (h:Below wr.heap.size wr u)=>yF h q1
  have l2:=fun u (h:Below wr.heap.size wr u)=>yF h p2
  have m2:=fun u (h:Below wr.heap.size wr u)=>yF h q2
  have l3:=fun u (h:Below wr.heap.size wr u)=>yF h p3
  have m3:=fun u (h:Below wr.heap.size wr u)=>yF h q3
  have l4:=fun u (h:Below wr.heap.size wr u)=>yF h p4
  have m4:=fun u (h:Below wr.heap.size wr u)=>yF h q4
  have l5:=fun u (h:Below wr.heap.size wr u)=>yF h p5
  have m5:=fun u (h:Below wr.heap.size wr u)=>yF h q5
  have l6:=fun u (h:Below wr.heap.size wr u)=>yF h p6
  have m6:=fun u (h:Below wr.heap.size wr u)=>yF h q6
  have l7:=fun u (h:Below wr.heap.size wr u)=>yF h p7
  have m7:=fun u (h:Below wr.heap.size wr u)=>yF h q7
  have n0:=fun u (h:Below wr.heap.size wr u)=>yF h k3
  have n1:=fun u (h:Below wr.heap.size wr u)=>yF h j3
  have HD:=Z' (fun u (h:Below wr.heap.size wr u)=>LA.out u (Pd.out.trans (h.mono Pd.out.size)));clear k3 j3 LA p0 q0 p1 q1 p2 q2 p3 q3 p4 q4 p5 q5 p6 q6 p7 q7
  refine ye (Below wr.heap.size wr) (.stir [(0,true),(1,true),(2,true),(3,true),(4,true),(5,true),(6,true),(7,true),(8,true),(9,true),(10,false),(11,true)]) (by kernel_rfl) (by kernel_rfl) (fun c a d v w h=>by cases d<;>exact h) ?_
  refine yA (Below wr.heap.size wr) (fun y hy=>hy) Z3 ?_
  iterate 10
   refine yH fun K hK=>tkX ?_
   go_simp
   try go_bits
   refine hK _ ?_;clear hK K
  refine yH (fun K hK=> ?_);simp only[xy,List.getElem?_toArray,List.getElem?_cons_succ,List.getElem?_cons_zero];rw[if_pos (by rfl)];apply Exists.intro;refine⟨fun w' Y7=> ?_,?_⟩
  ·go_simp;exact xg.call (Calls.mono ((HD.out w' Y7)) fun e w'' h=>⟨h.1,(fun Zr=>Y7.trans (Zr.mono Y7.size)) h.2⟩)
  go_simp;refine hK _ ?_;clear hK K
  iterate 1
   refine yH fun K hK=>tkX ?_
   go_simp
   try go_bits
   refine hK _ ?_;clear hK K
  refine yE (fun u hu=> ?_);clear HD Z3 n0 n1 l0 m0 l1 m1 l2 m2 l3 m3 l4 m4 l5 m5 l6 m6 l7 m7
  go_wp2_with fail
  go_roundg (mn-(j+1))
  case measure=>omega
  exact⟨j+1,by omega,rfl,by go_num,Z7 HB hu⟩
 obtain rfl:mn=j:=by omega
 go_wp2_with fail
 go_ret;exact⟨rfl,Pd.out⟩
def fxI:List IN:=[⟨167,1,0,[],[],[],[]⟩,⟨177,0,0,[],[],[],[]⟩]
def fxM(ca:Option Addr)(cc:Nat):UM:=⟨true,[103,111],[40,41,86],0,0,ca,2,cc,fxI,none,0,0,[],none,0,0,[]⟩
def fxF:UF:=⟨false,[120],[73]⟩
def fxU(fa ma ca:Option Addr)(fc mc cc:Nat):UU:=⟨[97,47,66],[],fa,1,fc,[fxF],ma,1,mc,[fxM ca cc]⟩
theorem E5t(fa ma ca:Option Addr)(fc mc cc:Nat):un (fxU fa ma ca fc mc cc)=0:=by kernel_rfl
theorem E4b(fa ma ca:Option Addr)(fc mc cc:Nat):(xi (fxU fa ma ca fc mc cc)).2=(xi (fxU none none none 0 0 0)).2:=by kernel_rfl
theorem E5g:un u0=8:=by kernel_rfl
def fxL:KF:=(xi (fxU none none none 0 0 0)).2
def fxK:KM:=(fxL.methods.head?).getD ⟨0,0,0,0,0,none,0,0,[],none,0,0,[],none,0,0,[]⟩
theorem cu:fxL.methods=[fxK]:=by kernel_rfl
theorem D7w:fxK.maps=[]:=by kernel_rfl
theorem E8k(pa fa ma ca ta na:Option Addr)(pn pc fn fc mn mc cn cc tn tc nn nc:Nat):vK ⟨pa,pn,pc,fxL.pool,fxL.th,fxL.su,fa,fn,fc,fxL.fields,ma,mn,mc,[⟨fxK.fl,fxK.nm,fxK.ds,fxK.st,fxK.lo,ca,cn,cc,fxK.code,ta,tn,tc,fxK.traps,na,nn,nc,[]⟩]⟩=true:=by kernel_rfl
theorem E8p(pa fa ma ca ta na:Option Addr)(pn pc fn fc mn mc cn cc tn tc nn nc:Nat):ue ⟨pa,pn,pc,fxL.pool,fxL.th,fxL.su,fa,fn,fc,fxL.fields,ma,mn,mc,[⟨fxK.fl,fxK.nm,fxK.ds,fxK.st,fxK.lo,ca,cn,cc,fxK.code,ta,tn,tc,fxK.traps,na,nn,nc,[]⟩]⟩=(fxU none none none 0 0 0).p:=by kernel_rfl
theorem E2m(x:KF)(h:x.lp=fxL):vK x=true/\ue x=(fxU none none none 0 0 0).p:=by
 obtain⟨pa,pn,pc,pool,th,su,fa,fn,fc,fields,ma,mn,mc,methods⟩:=x;unfold KF.lp at h;dsimp only at h;have h1:pool=fxL.pool:=congrArg KF.pool h;have h2:th=fxL.th:=congrArg KF.th h;have h3:su=fxL.su:=congrArg KF.su h;have h4:fields=fxL.fields:=congrArg KF.fields h;have h5:methods.map KM.lp=[fxK]:=(congrArg KF.methods h).trans cu;have hl:=congrArg List.length h5;rw[List.length_map]at hl;obtain⟨m,rfl⟩:=List.length_eq_one_iff.1 hl;have h6:m.lp=fxK:=by simpa using h5
 obtain⟨fl,nm,ds,st,lo,ca,cn,cc,code,ta,tn,tc,traps,na,nn,nc,maps⟩:=m;unfold KM.lp at h6;dsimp only at h6;have e1:fl=fxK.fl:=congrArg KM.fl h6;have e2:nm=fxK.nm:=congrArg KM.nm h6;have e3:ds=fxK.ds:=congrArg KM.ds h6;have e4:st=fxK.st:=congrArg KM.st h6;have e5:lo=fxK.lo:=congrArg KM.lo h6;have e6:code=fxK.code:=congrArg KM.code h6;have e7:traps=fxK.traps:=congrArg KM.traps h6;have e8:maps.map KP.lp=[]:=(congrArg KM.maps h6).trans D7w;obtain rfl:maps=[]:=List.map_eq_nil_iff.1 e8;subst h1 h2 h3 h4 e1 e2 e3 e4 e5 e6 e7;exact⟨E8k ..,E8p ..⟩
theorem fK(fa ma ca:Option Addr)(fc mc cc:Nat):(fxU fa ma ca fc mc cc).Fit:=by
 refine⟨by simp[fxU],by simp[fxU],by simp[fxU],fun f hf=> ?_,by simp[fxU],fun m hm=> ?_⟩
 ·obtain rfl:f=fxF:=by simpa[fxU]using hf
  simp[fxF]
 obtain rfl:m=fxM ca cc:=by simpa[fxU]using hm
 refine⟨by simp[fxM],by simp[fxM],by simp[fxM,fxI],fun x hx=> ?_,by simp[fxM],fun t ht=>by simp[fxM]at ht,by simp[fxM],fun p hp=>by simp[fxM]at hp⟩;have:x=⟨167,1,0,[],[],[],[]⟩\/x=⟨177,0,0,[],[],[],[]⟩:=by simpa[fxM,fxI]using hx
 rcases this with rfl|rfl
 ·exact⟨by decide,by constructor<;>decide,by constructor<;>decide,by simp,by simp,by simp,by simp⟩
 exact⟨by decide,by constructor<;>decide,by constructor<;>decide,by simp,by simp,by simp,by simp⟩
theorem E7g:u0.Fit:=⟨by simp[u0],by simp[u0],by simp[u0],fun f hf=>by simp[u0]at hf,by simp[u0],fun f hf=>by simp[u0]at hf⟩
theorem E8d(w:World):u0.Rd w:=⟨Ss.nil _ _,Ss.nil _ _,fun m hm=>by cases hm⟩
def zf:KF:=⟨none,0,0,[],0,0,none,0,0,[],none,0,0,[]⟩
theorem d5(w:World):zf.Rd w:=⟨Ss.nil _ _,Ss.nil _ _,Ss.nil _ _,fun m hm=>by cases hm⟩
theorem ej:zf.Fit:=⟨by decide,fun i hi=>by simp[zf]at hi,by decide,by decide,fun d hd=>by simp[zf]at hd,fun d hd=>by simp[zf]at hd⟩
theorem E8c:xn zf=false:=by kernel_rfl
theorem qB{f:KF}{w:World}(hr:f.Rd w)(hf:f.Fit)(i:Int):(kAt f.pool i).s.length<=65536:=by
 have hl:=hr.pool.1;by_cases h:0<=i/\i<f.pn
 ·obtain⟨k,rfl⟩:=Int.eq_ofNat_of_zero_le h.1;exact hf.ps k (by omega)
 unfold kAt;by_cases h2:i.toNat<f.pool.length
 ·by_cases h3:0<=i
  ·omega
  have h4:=hf.ps 0 (by omega);unfold kAt at h4;rw[show i.toNat=0 by omega];exact h4
 rw[List.getD_eq_getElem?_getD,List.getElem?_eq_none (by omega)];simp[kz]
theorem D6i(w:World)(hv:VW w):Calls prog 8 #[] w (fun e w'=>e= .returned (.bool true)/\Below w.heap.size w w'):=by
 have Yd:(w.alloc (.cells #[.bool false,.string ⟨#[120]⟩,.string ⟨#[73]⟩] 52)).heap.size=w.heap.size+1:=by simp
 have Xe:((w.alloc (.cells #[.bool false,.string ⟨#[120]⟩,.string ⟨#[73]⟩] 52)).alloc (.cells #[.int .u8 167,.int .i64 1,.int .i64 0,.string ⟨#[]⟩,.string ⟨#[]⟩,.string ⟨#[]⟩,.string ⟨#[]⟩,.int .u8 177,.int .i64 0,.int .i64 0,.string ⟨#[]⟩,.string ⟨#[]⟩,.string ⟨#[]⟩,.string ⟨#[]⟩] yU)).heap.size=w.heap.size+1+1:=by simp
 have Zz:(((w.alloc (.cells #[.bool false,.string ⟨#[120]⟩,.string ⟨#[73]⟩] 52)).alloc (.cells #[.int .u8 167,.int .i64 1,.int .i64 0,.string ⟨#[]⟩,.string ⟨#[]⟩,.string ⟨#[]⟩,.string ⟨#[]⟩,.int .u8 177,.int .i64 0,.int .i64 0,.string ⟨#[]⟩,.string ⟨#[]⟩,.string ⟨#[]⟩,.string ⟨#[]⟩] yU)).alloc (.cells #[.bool true,.string ⟨#[103,111]⟩,.string ⟨#[40,41,86]⟩,.int .i64 0,.int .i64 0,.slice (some ⟨w.heap.size+1,0,none⟩) 2 2,.slice none 0 0,.slice none 0 0] yT)).heap.size=w.heap.size+1+1+1:=by simp
 have b1:Below w.heap.size w (w.alloc (.cells #[.bool false,.string ⟨#[120]⟩,.string ⟨#[73]⟩] 52)):=yV _ _;have b2:=yV (w.alloc (.cells #[.bool false,.string ⟨#[120]⟩,.string ⟨#[73]⟩] 52)) (.cells #[.int .u8 167,.int .i64 1,.int .i64 0,.string ⟨#[]⟩,.string ⟨#[]⟩,.string ⟨#[]⟩,.string ⟨#[]⟩,.int .u8 177,.int .i64 0,.int .i64 0,.string ⟨#[]⟩,.string ⟨#[]⟩,.string ⟨#[]⟩,.string ⟨#[]⟩] yU);have b3:=yV ((w.alloc (.cells #[.bool false,.string ⟨#[120]⟩,.string ⟨#[73]⟩] 52)).alloc (.cells #[.int .u8 167,.int .i64 1,.int .i64 0,.string ⟨#[]⟩,.string ⟨#[]⟩,.string ⟨#[]⟩,.string ⟨#[]⟩,.int .u8 177,.int .i64 0,.int .i64 0,.string ⟨#[]⟩,.string ⟨#[]⟩,.string ⟨#[]⟩,.string ⟨#[]⟩] yU)) (.cells #[.bool true,.string ⟨#[103,111]⟩,.string ⟨#[40,41,86]⟩,.int .i64 0,.int .i64 0,.slice (some ⟨w.heap.size+1,0,none⟩) 2 2,.slice none 0 0,.slice none 0 0] yT);have b4:=yV (((w.alloc (.cells #[.bool false,.string ⟨#[120]⟩,.string ⟨#[73]⟩] 52)).alloc (.cells #[.int .u8 167,.int .i64 1,.int .i64 0,.string ⟨#[]⟩,.string ⟨#[]⟩,.string ⟨#[]⟩,.string ⟨#[]⟩,.int .u8 177,.int .i64 0,.int .i64 0,.string ⟨#[]⟩,.string ⟨#[]⟩,.string ⟨#[]⟩,.string ⟨#[]⟩] yU)).alloc (.cells #[.bool true,.string ⟨#[103,111]⟩,.string ⟨#[40,41,86]⟩,.int .i64 0,.int .i64 0,.slice (some ⟨w.heap.size+1,0,none⟩) 2 2,.slice none 0 0,.slice none 0 0] yT)) (.cells #[.string ⟨#[97,47,66]⟩,.string ⟨#[]⟩,.slice (some ⟨w.heap.size,0,none⟩) 1 1,.slice (some ⟨w.heap.size+1+1,0,none⟩) 1 1] yq);have r1:=yW (yW (yW (heap_alloc_last w (.cells #[.bool false,.string ⟨#[120]⟩,.string ⟨#[73]⟩] 52)) b2) b3) b4;have r2:=yW (yW (heap_alloc_last (w.alloc (.cells #[.bool false,.string ⟨#[120]⟩,.string ⟨#[73]⟩] 52)) (.cells #[.int .u8 167,.int .i64 1,.int .i64 0,.string ⟨#[]⟩,.string ⟨#[]⟩,.string ⟨#[]⟩,.string ⟨#[]⟩,.int .u8 177,.int .i64 0,.int .i64 0,.string ⟨#[]⟩,.string ⟨#[]⟩,.string ⟨#[]⟩,.string ⟨#[]⟩] yU)) b3) b4;have r3:=yW (heap_alloc_last ((w.alloc (.cells #[.bool false,.string ⟨#[120]⟩,.string ⟨#[73]⟩] 52)).alloc (.cells #[.int .u8 167,.int .i64 1,.int .i64 0,.string ⟨#[]⟩,.string ⟨#[]⟩,.string ⟨#[]⟩,.string ⟨#[]⟩,.int .u8 177,.int .i64 0,.int .i64 0,.string ⟨#[]⟩,.string ⟨#[]⟩,.string ⟨#[]⟩,.string ⟨#[]⟩] yU)) (.cells #[.bool true,.string ⟨#[103,111]⟩,.string ⟨#[40,41,86]⟩,.int .i64 0,.int .i64 0,.slice (some ⟨w.heap.size+1,0,none⟩) 2 2,.slice none 0 0,.slice none 0 0] yT)) b4;have r4:=heap_alloc_last (((w.alloc (.cells #[.bool false,.string ⟨#[120]⟩,.string ⟨#[73]⟩] 52)).alloc (.cells #[.int .u8 167,.int .i64 1,.int .i64 0,.string ⟨#[]⟩,.string ⟨#[]⟩,.string ⟨#[]⟩,.string ⟨#[]⟩,.int .u8 177,.int .i64 0,.int .i64 0,.string ⟨#[]⟩,.string ⟨#[]⟩,.string ⟨#[]⟩,.string ⟨#[]⟩] yU)).alloc (.cells #[.bool true,.string ⟨#[103,111]⟩,.string ⟨#[40,41,86]⟩,.int .i64 0,.int .i64 0,.slice (some ⟨w.heap.size+1,0,none⟩) 2 2,.slice none 0 0,.slice none 0 0] yT)) (.cells #[.string ⟨#[97,47,66]⟩,.string ⟨#[]⟩,.slice (some ⟨w.heap.size,0,none⟩) 1 1,.slice (some ⟨w.heap.size+1+1,0,none⟩) 1 1] yq);rw[Yd]at r2;rw[Xe]at r3;rw[Zz]at r4
 have N9:Below w.heap.size w ((((w.alloc (.cells #[.bool false,.string ⟨#[120]⟩,.string ⟨#[73]⟩] 52)).alloc (.cells #[.int .u8 167,.int .i64 1,.int .i64 0,.string ⟨#[]⟩,.string ⟨#[]⟩,.string ⟨#[]⟩,.string ⟨#[]⟩,.int .u8 177,.int .i64 0,.int .i64 0,.string ⟨#[]⟩,.string ⟨#[]⟩,.string ⟨#[]⟩,.string ⟨#[]⟩] yU)).alloc (.cells #[.bool true,.string ⟨#[103,111]⟩,.string ⟨#[40,41,86]⟩,.int .i64 0,.int .i64 0,.slice (some ⟨w.heap.size+1,0,none⟩) 2 2,.slice none 0 0,.slice none 0 0] yT)).alloc (.cells #[.string ⟨#[97,47,66]⟩,.string ⟨#[]⟩,.slice (some ⟨w.heap.size,0,none⟩) 1 1,.slice (some ⟨w.heap.size+1+1,0,none⟩) 1 1] yq)):=((((Below.refl w.heap.size w).alloc Z5 _).alloc (by simp) _).alloc (by simp;omega) _).alloc (by simp;omega) _
 have DZ:(fxU (some ⟨w.heap.size,0,none⟩) (some ⟨w.heap.size+1+1,0,none⟩) (some ⟨w.heap.size+1,0,none⟩) 1 1 2).Rd ((((w.alloc (.cells #[.bool false,.string ⟨#[120]⟩,.string ⟨#[73]⟩] 52)).alloc (.cells #[.int .u8 167,.int .i64 1,.int .i64 0,.string ⟨#[]⟩,.string ⟨#[]⟩,.string ⟨#[]⟩,.string ⟨#[]⟩,.int .u8 177,.int .i64 0,.int .i64 0,.string ⟨#[]⟩,.string ⟨#[]⟩,.string ⟨#[]⟩,.string ⟨#[]⟩] yU)).alloc (.cells #[.bool true,.string ⟨#[103,111]⟩,.string ⟨#[40,41,86]⟩,.int .i64 0,.int .i64 0,.slice (some ⟨w.heap.size+1,0,none⟩) 2 2,.slice none 0 0,.slice none 0 0] yT)).alloc (.cells #[.string ⟨#[97,47,66]⟩,.string ⟨#[]⟩,.slice (some ⟨w.heap.size,0,none⟩) 1 1,.slice (some ⟨w.heap.size+1+1,0,none⟩) 1 1] yq)):=by
  refine⟨Ss.lit UF.cells_length r1 rfl rfl,Ss.lit UM.cells_length r3 rfl rfl,fun m hm=> ?_⟩;obtain rfl:m=fxM (some ⟨w.heap.size+1,0,none⟩) 2:=by simpa[fxU]using hm
  exact⟨Ss.lit IN.cells_length r2 rfl rfl,Ss.nil _ _,Ss.nil _ _,fun p hp=>by simp[fxM]at hp⟩
 have HU:=Z' DZ;have Zp:=Z' N9;have HG:=Z' r4;have HV:=Z' hv;clear Yd Xe Zz b1 b2 b3 b4 r1 r2 r3 r4 N9 DZ hv;go_enter func8,ntmps8
 go_upto_region 2 with fail
 generalize((((w.alloc (.cells #[.bool false,.string ⟨#[120]⟩,.string ⟨#[73]⟩] 52)).alloc (.cells #[.int .u8 167,.int .i64 1,.int .i64 0,.string ⟨#[]⟩,.string ⟨#[]⟩,.string ⟨#[]⟩,.string ⟨#[]⟩,.int .u8 177,.int .i64 0,.int .i64 0,.string ⟨#[]⟩,.string ⟨#[]⟩,.string ⟨#[]⟩,.string ⟨#[]⟩] yU)).alloc (.cells #[.bool true,.string ⟨#[103,111]⟩,.string ⟨#[40,41,86]⟩,.int .i64 0,.int .i64 0,.slice (some ⟨w.heap.size+1,0,none⟩) 2 2,.slice none 0 0,.slice none 0 0] yT)).alloc (.cells #[.string ⟨#[97,47,66]⟩,.string ⟨#[]⟩,.slice (some ⟨w.heap.size,0,none⟩) 1 1,.slice (some ⟨w.heap.size+1+1,0,none⟩) 1 1] yq))=W0 at*;have TU:=Z' (nf W0 (fxU (some ⟨w.heap.size,0,none⟩) (some ⟨w.heap.size+1+1,0,none⟩) (some ⟨w.heap.size+1,0,none⟩) 1 1 2) HU.out (fK _ _ _ _ _ _) (HV.out.below Zp.out));unfold nG at TU;rw[E5t]at TU
 have Xx:Hid (Calls prog 14 #[.agg #[.string ⟨#[97,47,66]⟩,.string ⟨#[]⟩,.slice (some ⟨w.heap.size,0,none⟩) 1 1,.slice (some ⟨w.heap.size+1+1,0,none⟩) 1 1]] W0 (fun e w'=>∃x:KF,e= .returned (.tuple #[.agg x.cells.toArray,.int .i64 0])/\x.lp=fxL/\x.Rd w'/\x.Fit/\Below W0.heap.size W0 w')):=by
  refine Z' (TU.out.mono ?_);rintro e w' ⟨x,h1,h2,-,h4⟩;obtain⟨h5,h6,h7⟩:=h2 rfl;exact⟨x,h1,h5.trans (E4b _ _ _ _ _ _),h6,h7,h4⟩
 clear TU;have k0:W0.cell? ⟨w.heap.size+1+1+1,0,none⟩=some (.string ⟨#[97,47,66]⟩):=y8 HG.out 0 rfl;have k1:W0.cell? ⟨w.heap.size+1+1+1,1,none⟩=some (.string ⟨#[]⟩):=y8 HG.out 1 rfl;have k2:W0.cell? ⟨w.heap.size+1+1+1,2,none⟩=some (.slice (some ⟨w.heap.size,0,none⟩) 1 1):=y8 HG.out 2 rfl;have k3:W0.cell? ⟨w.heap.size+1+1+1,3,none⟩=some (.slice (some ⟨w.heap.size+1+1,0,none⟩) 1 1):=y8 HG.out 3 rfl
 go_wp2_with fail
 clear k0 k1 k2 k3;refine Xx.out.mono ?_;clear Xx;rintro e w1 ⟨x,rfl,JS,Tu,Ej,ZQ⟩;have ZM:=Z7 Zp ZQ;have Mi:=Z' (yW HG.out ZQ);have LL:=Z' (HU.out.below ZQ);clear ZQ Zp HG HU;obtain⟨BR,CB⟩:=E2m x JS;have UB:=Z' BR;have LQ:=Z' CB;clear JS BR CB;have ZY:Below w1.heap.size w1 (w1.alloc (.cells x.cells.toArray 26)):=yV _ _;have Yw:=heap_alloc_last w1 (.cells x.cells.toArray 26);have BW:=Z' (mP (w1.alloc (.cells x.cells.toArray 26)) x (Tu.below ZY) Ej (HV.out.below (ZM.out.trans (ZY.mono ZM.out.size))) (qB Tu Ej));have ZT:=Z7 ZM ZY;have UV:=Z' (yW Mi.out ZY);have GT:=Z' (LL.out.below ZY);have c0:(w1.alloc (.cells x.cells.toArray 26)).cell? ⟨w1.heap.size,0,none⟩=some (.slice x.pa x.pn x.pc):=y8 Yw 0 rfl;have c1:(w1.alloc (.cells x.cells.toArray 26)).cell? ⟨w1.heap.size,1,none⟩=some (.int .i64 x.th):=y8 Yw 1 rfl;have c2:(w1.alloc (.cells x.cells.toArray 26)).cell? ⟨w1.heap.size,2,none⟩=some (.int .i64 x.su):=y8 Yw 2 rfl;have c3:(w1.alloc (.cells x.cells.toArray 26)).cell? ⟨w1.heap.size,3,none⟩=some (.slice x.fa x.fn x.fc):=y8 Yw 3 rfl;have c4:(w1.alloc (.cells x.cells.toArray 26)).cell? ⟨w1.heap.size,4,none⟩=some (.slice x.ma x.mn x.mc):=y8 Yw 4 rfl;clear ZY Yw Tu Ej ZM Mi LL;obtain⟨pa,pn,pc,pool,th,su,fa,fn,fc,fields,ma,mn,mc,methods⟩:=x;dsimp only[KF.cells]at*
 go_upto_region 3 with fail
 generalize w1.alloc _=W2 at*
 go_wp2_with fail
 clear c0 c1 c2 c3 c4;refine BW.out.mono ?_;clear BW;rintro e w2 ⟨v,er,rfl,h1,h2,-,-,ho,ZN⟩;obtain rfl:er=0:=h1.2 UB.out;have GW:=Z' ((h2 rfl).trans LQ.out);have ZY:=yV w2 (.cells v.cells.toArray yq);have T9:=ZN.trans (ZY.mono ZN.size);have ZG:=Z7 ZT T9;have Jd:=Z' (yW UV.out T9);have DU:=Z' (GT.out.below T9);have BN:=Z' (ho.rd.below ZY);have Gf:=Z' (heap_alloc_last w2 (.cells v.cells.toArray yq));obtain⟨g4,Xd⟩:∃g,g=w2.heap.size:=⟨_,rfl⟩;clear h1 h2 ho ZN ZY T9 ZT UV GT UB LQ;obtain⟨Zs,DB,Jx,F8,Jy,PJ,Jz,Es,JL,QW⟩:=v;dsimp only[UU.cells]at*
 go_upto_region 4 with fail
 generalize w2.alloc _=W3 at*;rw[<-Xd]at Gf⊢;clear Xd;have Wh:=Z' (mP W3 zf (d5 _) ej (HV.out.below ZG.out) (fun i=>qB (d5 W3) ej i));dsimp only[zf]at Wh
 go_wp2_with fail
 refine Wh.out.mono ?_;clear Wh;rintro e w3 ⟨z,er,rfl,-,-,-,h8,-,Zn⟩;obtain rfl:er=8:=h8 E8c;have ZY:=yV w3 (.cells z.cells.toArray yq);have T9:=Zn.trans (ZY.mono Zn.size);have YY:=Z7 ZG T9;have Lv:=Z' (yW Jd.out T9);have CG:=Z' (DU.out.below T9);have JW:=Z' (BN.out.below T9);have KE:=Z' (yW Gf.out T9);clear h8 Zn ZY T9 ZG Jd DU BN Gf;obtain⟨nm3,su3,fa3,fn3,fc3,fields3,ma3,mn3,mc3,methods3⟩:=z;dsimp only[UU.cells]at*
 go_upto_region 5 with fail
 generalize w3.alloc _=W4 at*;have Xt:=Z' (nf W4 u0 (E8d _) E7g (HV.out.below YY.out));unfold nG at Xt;rw[E5g]at Xt;dsimp only[u0,UU.cells]at Xt
 go_wp2_with fail
 refine Xt.out.mono ?_;clear Xt;rintro e w4 ⟨z,rfl,-,h8,Zn⟩;obtain rfl:=h8 (by decide);have ZY:=yV w4 (.cells #[.slice none 0 0,.int .i64 0,.int .i64 0,.slice none 0 0,.slice none 0 0] 26);have T9:=Zn.trans (ZY.mono Zn.size);have X9:=Z7 YY T9;have Tt:=Z' (yW Lv.out T9);have AX:=Z' (CG.out.below T9);have EU:=Z' (JW.out.below T9);have PW:=Z' (yW KE.out T9);clear h8 Zn ZY T9 YY Lv CG JW KE;dsimp only[KF.cells]
 go_upto_region 6 with fail
 generalize w4.alloc _=W5 at*;have SE:=Z' (ii W5 _ _ AX.out EU.out (by rw[GW.out];rfl) (fK _ _ _ _ _ _));dsimp only[fxU,UU.cells]at SE;have Y9:=Z' (fun(W:World) (h:Below W5.heap.size W5 W)=>sF W [97,36] (by decide) (HV.out.below (X9.out.trans (h.mono X9.out.size))));have Zj:=Z' (fun(W:World) (h:Below W5.heap.size W5 W)=>sF W [97,47,98] (by decide) (HV.out.below (X9.out.trans (h.mono X9.out.size))));rw[show yk [97,36]=true by kernel_rfl]at Y9;rw[show yk [97,47,98]=false by kernel_rfl]at Zj;have k0:W5.cell? ⟨w.heap.size+1+1+1,0,none⟩=some (.string ⟨#[97,47,66]⟩):=y8 Tt.out 0 rfl;have k1:W5.cell? ⟨w.heap.size+1+1+1,1,none⟩=some (.string ⟨#[]⟩):=y8 Tt.out 1 rfl;have k2:W5.cell? ⟨w.heap.size+1+1+1,2,none⟩=some (.slice (some ⟨w.heap.size,0,none⟩) 1 1):=y8 Tt.out 2 rfl;have k3:W5.cell? ⟨w.heap.size+1+1+1,3,none⟩=some (.slice (some ⟨w.heap.size+1+1,0,none⟩) 1 1):=y8 Tt.out 3 rfl;have c0:W5.cell? ⟨g4,0,none⟩=some (.string ⟨Zs.toArray⟩):=y8 PW.out 0 rfl;have c1:W5.cell? ⟨g4,1,none⟩=some (.string ⟨DB.toArray⟩):=y8 PW.out 1 rfl;have c2:W5.cell? ⟨g4,2,none⟩=some (.slice Jx F8 Jy):=y8 PW.out 2 rfl;have c3:W5.cell? ⟨g4,3,none⟩=some (.slice Jz Es JL):=y8 PW.out 3 rfl
 go_wp2_with fail
 clear k0 k1 k2 k3 c0 c1 c2 c3;refine SE.out.mono ?_;clear SE;rintro e w5 ⟨rfl,Yi⟩
 go_wp2_with fail
 refine(Y9.out _ Yi).mono ?_;rintro e w6 ⟨rfl,Yy⟩;have Mt:=Yi.trans (Yy.mono Yi.size)
 go_wp2_with fail
 refine(Zj.out _ Mt).mono ?_;rintro e w7 ⟨rfl,Xr⟩;have Fk:=Mt.trans (Xr.mono Mt.size)
 go_wp2_with fail
 go_ret;exact⟨rfl,X9.out.trans (Fk.mono X9.out.size)⟩
theorem D8a{L:List KV}(hp:xP L=true):kj L:=by
 intro i h8
 have hl:i.toNat<L.length:=by
  refine Nat.lt_of_not_le fun hh=> ?_
  unfold kAt at h8;rw[List.getD_eq_getElem?_getD,List.getElem?_eq_none hh]at h8;exact absurd h8 (by decide)
 have e:kAt L i=kAt L (i.toNat:Int):=by
  unfold kAt;rw[Int.toNat_natCast]
 rw[e]at h8⊢;unfold xP at hp;simp only[Bool.and_eq_true,List.all_eq_true]at hp;have h2:=hp.2 i.toNat (List.mem_range.2 hl);unfold xS at h2;simp only[Bool.and_eq_true]at h2;replace h2:=h2.2;unfold yn at h2;simp only[h8]at h2;simpa using h2
structure RlC(w W:World)(go:Nat)(f:KF):Prop where
 f:W.heap[w.heap.size]? =some (.cells f.cells.toArray 26 (0,0))
 z:W.heap[w.heap.size+1]? =some (.cells u0.cells.toArray yq (0,0))
 b:Below w.heap.size w W
 gs:go<W.heap.size
 g1:w.heap.size+1<go
abbrev GL(go:Nat):Nat->Prop:=fun k=>k=go
theorem RlC.fw{w W wr:World}{go:Nat}{f:KF}(h:RlC w W go f)(k:yZ (GL go) W wr):wr.heap[w.heap.size]? =some (.cells f.cells.toArray 26 (0,0)):=k.row h.f (by have:=h.g1;show ¬(_=_);omega)
theorem RlC.zw{w W wr:World}{go:Nat}{f:KF}(h:RlC w W go f)(k:yZ (GL go) W wr):wr.heap[w.heap.size+1]? =some (.cells u0.cells.toArray yq (0,0)):=k.row h.z (by have:=h.g1;show ¬(_=_);omega)
theorem RlC.bw{w W wr:World}{go:Nat}{f:KF}(h:RlC w W go f)(k:yZ (GL go) W wr):Below w.heap.size w wr:=k.below h.b Z5 (fun x hx=>by have:=h.g1;have VG:x=go:=hx;omega)
structure RlJ(W wr:World)(go:Nat)(x:UU):Prop where
 k:yZ (GL go) W wr
 o:wr.heap[go]? =some (.cells x.cells.toArray yq (0,0))
 w:x.Own wr W.heap.size
theorem RlJ.below{W wr w9:World}{go:Nat}{x:UU}(h:RlJ W wr go x)(hb:Below wr.heap.size wr w9):RlJ W w9 go x:=
 ⟨h.k.trans (yZ.of hb),yW h.o hb,h.w.keepP (yZ.of (p:=fun _=>False) hb) (fun _ hx=>hx.elim)⟩
theorem RlJ.app{W wr w9:World}{go:Nat}{x x':UU}{e:TypeId}(h:RlJ W wr go x)(hB:yZ (fun k=>W.heap.size<=k) wr w9)(ht:yd e wr w9)(hw:x'.Own w9 W.heap.size)(WX:go<W.heap.size)(P7:yq≠e:=by decide):
  yZ (GL go) W w9/\w9.heap[go]? =some (.cells x.cells.toArray yq (0,0))/\∀(o:Nat) (v:Value),x'.cells.toArray=x.cells.toArray.setIfInBounds o v->RlJ W (w9.setCell ⟨go,o,none⟩ v) go x':=by
 have ZU:=h.k.new hB;have P8:=ht.2 _ _ _ _ h.o P7;refine⟨ZU,P8,fun o v hc=> ?_⟩;have hs:yZ (GL go) w9 (w9.setCell ⟨go,o,none⟩ v):=yZ.set (yZ.refl (GL go) w9) (.inl rfl) o v;refine⟨ZU.trans hs,?_,hw.keepP hs (fun y hy=> .inl (by have AC:y=go:=hy;omega))⟩;have:=wZ P8 o v;rw[hc];exact this
def D7j(f:KF)(w:World)(e:Ending)(w':World):Prop:=
 ∃(u:UU) (ok:Bool),e= .returned (.tuple #[.agg u.cells.toArray,.bool ok])/\ok=vK f/\(ok=true->u.p=ue f/\u.Own w' w.heap.size)/\(ok=false->u=u0)/\Below w.heap.size w w'
theorem D9s{f:KF}{NM SU:List UInt8}(hc:xn f=true)(h1:(yQ f.pool f.th).1=NM)(h2:SU=if f.su=0 then []else(yQ f.pool f.su).1):
  vK f=(classB NM&&((decide (f.su=0)||classB SU)&&(f.fields.all (ve f.pool)&&f.methods.all (vL f.pool)))):=by
 unfold vK;rw[hc,qA,qA,h1];by_cases h0:f.su=0
 ·simp[h0]
 rw[h2,if_neg h0];simp
def QL(s gd b o1 o2:Nat)(f:KF)(d:KD)(nm ds:List UInt8)(w:World):Prop:=(w.heap[s]? =some (.cells f.cells.toArray 26 (0,0))/\w.heap[gd]? =some (.cells d.cells.toArray 75 (0,0)))/\w.cell? ⟨b,o1,none⟩=some (.string ⟨nm.toArray⟩)/\w.cell? ⟨b,o2,none⟩=some (.string ⟨ds.toArray⟩)
theorem QL.below{s gd b o1 o2:Nat}{f:KF}{d:KD}{nm ds:List UInt8}{w w':World}(h:QL s gd b o1 o2 f d nm ds w)(hb:Below w.heap.size w w'):QL s gd b o1 o2 f d nm ds w':=⟨⟨yW h.1.1 hb,yW h.1.2 hb⟩,yF hb h.2.1,yF hb h.2.2⟩
theorem QL.row{s gd b o1 o2:Nat}{f:KF}{d:KD}{nm ds:List UInt8}{w w':World}(h:QL s gd b o1 o2 f d nm ds w){B:Nat}(hb:Below B w w')(hB:s<B/\gd<B/\b<B):QL s gd b o1 o2 f d nm ds w':=
 ⟨⟨by rw[hb.block s hB.1];exact h.1.1,by rw[hb.block gd hB.2.1];exact h.1.2⟩,by rw[hb.cell (show(⟨b,o1,none⟩:Addr).block<B from hB.2.2)];exact h.2.1,by rw[hb.cell (show(⟨b,o2,none⟩:Addr).block<B from hB.2.2)];exact h.2.2⟩
theorem jR{f:KF}(h:xn f=true):xP f.pool=true/\∀d∈f.fields,xK f.pool d.fl d.nm d.ds=true:=by
 unfold xn at h;simp only[Bool.and_eq_true,List.all_eq_true]at h;exact⟨h.1.1.1.1.1,h.1.2⟩
theorem D2j(w:World)(f:KF)(h:f.Rd w)(XU:f.Fit)(UY:f.Big):
  Calls prog 11 #[.agg #[.slice f.pa f.pn f.pc,.int .i64 f.th,.int .i64 f.su,.slice f.fa f.fn f.fc,.slice f.ma f.mn f.mc]] w (D7j f w):=by
 have Zb:=qB h XU;have U1:=XU.pn;have HR:=Z' h;have Yn:=Z' Zb;have Zg:=Z' U1;have ZN:Below w.heap.size w ((w.alloc (.cells #[.slice f.pa f.pn f.pc,.int .i64 f.th,.int .i64 f.su,.slice f.fa f.fn f.fc,.slice f.ma f.mn f.mc] 26)).alloc (.cells #[.string ⟨#[]⟩,.string ⟨#[]⟩,.slice none 0 0,.slice none 0 0] yq)):=((Below.refl w.heap.size w).alloc Z5 _).alloc (by simp) _;have ZT:=Z' ZN
 have Vp:=Z' (show((w.alloc (.cells #[.slice f.pa f.pn f.pc,.int .i64 f.th,.int .i64 f.su,.slice f.fa f.fn f.fc,.slice f.ma f.mn f.mc] 26)).alloc (.cells #[.string ⟨#[]⟩,.string ⟨#[]⟩,.slice none 0 0,.slice none 0 0] yq)).heap[w.heap.size]? =some (.cells f.cells.toArray 26 (0,0)) by
  rw[Below.heap_alloc _ _ _ (by simp)];exact heap_alloc_last w _)
 have WG:=Z' (show((w.alloc (.cells #[.slice f.pa f.pn f.pc,.int .i64 f.th,.int .i64 f.su,.slice f.fa f.fn f.fc,.slice f.ma f.mn f.mc] 26)).alloc (.cells #[.string ⟨#[]⟩,.string ⟨#[]⟩,.slice none 0 0,.slice none 0 0] yq)).heap[w.heap.size+1]? =some (.cells u0.cells.toArray yq (0,0)) by
  have:=heap_alloc_last (w.alloc (.cells #[.slice f.pa f.pn f.pc,.int .i64 f.th,.int .i64 f.su,.slice f.fa f.fn f.fc,.slice f.ma f.mn f.mc] 26)) (.cells #[.string ⟨#[]⟩,.string ⟨#[]⟩,.slice none 0 0,.slice none 0 0] yq);have h2:((w.alloc (.cells #[.slice f.pa f.pn f.pc,.int .i64 f.th,.int .i64 f.su,.slice f.fa f.fn f.fc,.slice f.ma f.mn f.mc] 26)).alloc (.cells #[.string ⟨#[]⟩,.string ⟨#[]⟩,.slice none 0 0,.slice none 0 0] yq)).heap[w.heap.size+1]? =some (.cells #[.string ⟨#[]⟩,.string ⟨#[]⟩,.slice none 0 0,.slice none 0 0] yq):=by simpa using this
  exact h2)
 have Uu:=Z9 (Calls prog 25 #[.agg #[.slice f.pa f.pn f.pc,.int .i64 f.th,.int .i64 f.su,.slice f.fa f.fn f.fc,.slice f.ma f.mn f.mc]] ((w.alloc (.cells #[.slice f.pa f.pn f.pc,.int .i64 f.th,.int .i64 f.su,.slice f.fa f.fn f.fc,.slice f.ma f.mn f.mc] 26)).alloc (.cells #[.string ⟨#[]⟩,.string ⟨#[]⟩,.slice none 0 0,.slice none 0 0] yq)) (yS (xn f) ((w.alloc (.cells #[.slice f.pa f.pn f.pc,.int .i64 f.th,.int .i64 f.su,.slice f.fa f.fn f.fc,.slice f.ma f.mn f.mc] 26)).alloc (.cells #[.string ⟨#[]⟩,.string ⟨#[]⟩,.slice none 0 0,.slice none 0 0] yq)))) (D1z ((w.alloc (.cells #[.slice f.pa f.pn f.pc,.int .i64 f.th,.int .i64 f.su,.slice f.fa f.fn f.fc,.slice f.ma f.mn f.mc] 26)).alloc (.cells #[.string ⟨#[]⟩,.string ⟨#[]⟩,.slice none 0 0,.slice none 0 0] yq)) f (h.below ZN) U1 XU.ps UY);have YS:=Z' (show((w.alloc (.cells #[.slice f.pa f.pn f.pc,.int .i64 f.th,.int .i64 f.su,.slice f.fa f.fn f.fc,.slice f.ma f.mn f.mc] 26)).alloc (.cells #[.string ⟨#[]⟩,.string ⟨#[]⟩,.slice none 0 0,.slice none 0 0] yq)).heap.size=w.heap.size+1+1 by simp);clear h XU UY ZN Zb;obtain⟨ck,VV⟩:=Z8 (xn f);rw[<-VV]at Uu;have Yh:=Z' VV;clear VV;go_enter func11,ntmps11
 go_upto_region 1 with fail
 generalize(w.alloc (.cells #[.slice f.pa f.pn f.pc,.int .i64 f.th,.int .i64 f.su,.slice f.fa f.fn f.fc,.slice f.ma f.mn f.mc] 26)).alloc (.cells #[.string ⟨#[]⟩,.string ⟨#[]⟩,.slice none 0 0,.slice none 0 0] yq)=W0 at*;have c0:=y8 Vp.out 0 rfl;have c1:=y8 Vp.out 1 rfl;have c2:=y8 Vp.out 2 rfl;have c3:=y8 Vp.out 3 rfl;have c4:=y8 Vp.out 4 rfl;dsimp only[KF.cells]at c0 c1 c2 c3 c4
 go_wp2_with fail
 refine Uu.out.mono ?_;rintro e w1 ⟨rfl,ZQ⟩;have ZM:=Z7 ZT ZQ;have Vx:=Z' (yW Vp.out ZQ);have LR:=Z' (yW WG.out ZQ);have Yd:w.heap.size+1<w1.heap.size:=by have:=ZQ.size;have:=YS.out;omega
 clear ZQ Uu ZT Vp WG YS c0 c1 c2 c3 c4
 cases ck
 ·have YC:=Z' (LR.out);have Xj:=Z' (ZM.out)
  go_upto_region 2 with fail
  refine wp_region_lit ?_;refine wpList_step fun K hK=> ?_
  rw[if_pos (by rfl)];go_step;refine hK _ _ ?_;clear hK K;refine wpList_store_row rfl _ _ _ rfl _ (UU.cells u0).toArray rfl rfl _ _ YC.out vD rfl (sN _) ?_
  go_wp2_with fail
  refine bodyPost_ret (x8 rfl _ _ (w.heap.size+1) yq (UU.cells u0).toArray (0,0) _ rfl (setRow_heap _ _ _ _ _ _ YC.out) underlying32 rfl vD) rfl ?_;exact⟨u0,false,rfl,(by unfold vK;rw[<-Yh.out];rfl),(fun h=>absurd h (by decide)),fun _=>rfl,ws Xj.out (by omega) _⟩
 have Wg:=Z' (D8a (jR Yh.out.symm).1);have Ry:=Z' (jR Yh.out.symm).2
 go_upto_region 4 with fail
 have ZY:=yV w1 (.cells #[.string ⟨#[]⟩,.string ⟨#[]⟩,.slice none 0 0,.slice none 0 0] yq);have ZG:=Z7 ZM ZY;have Q1:=Z' (yW Vx.out ZY);have Uh:=Z' (yW LR.out ZY);have VX:=Z9 ((w1.alloc (.cells #[.string ⟨#[]⟩,.string ⟨#[]⟩,.slice none 0 0,.slice none 0 0] yq)).heap[w1.heap.size]? =some (.cells u0.cells.toArray yq (0,0))) (heap_alloc_last w1 (.cells #[.string ⟨#[]⟩,.string ⟨#[]⟩,.slice none 0 0,.slice none 0 0] yq));clear ZY ZM Vx LR;generalize w1.alloc _=w2 at*;generalize w1.heap.size=go at*;obtain⟨NM,Uv⟩:∃NM,NM=(yQ f.pool f.th).1:=⟨_,rfl⟩;have Ty:=Z' Uv;have Vc:=Z' (show NM.length<=65536 by rw[Uv];exact uj Yn.out _);have Y4:=Z' (rV w2 f.pa f.pn f.pc f.pool f.th (HR.out.below ZG.out).pool Zg.out);unfold uK at Y4;rw[<-Uv]at Y4;clear Uv;generalize(yQ f.pool f.th).2=cb at*;have c0:=y8 Q1.out 0 rfl;have c1:=y8 Q1.out 1 rfl;have c2:=y8 Q1.out 2 rfl;dsimp only[KF.cells]at c0 c1 c2
 go_wp2_with fail
 refine Y4.out.mono ?_;rintro e w3 ⟨rfl,FX⟩;obtain rfl:w2=w3:=FX;have fo:=xQ VX.out 0;have oo:=y8 VX.out 0 rfl;have lto:=yG VX.out;dsimp only[UU.cells,u0]at oo
 go_upto_region 5 with fail
 have Yx:=Z' (ZG.out.setCell (p:=⟨go,0,none⟩) (show w.heap.size<=go by omega) (.string ⟨NM.toArray⟩));have Vy:=Z' (wQ Q1.out (show w.heap.size≠go by omega) 0 (.string ⟨NM.toArray⟩));have Tx:=Z' (wQ Uh.out (show w.heap.size+1≠go by omega) 0 (.string ⟨NM.toArray⟩));have Va:=Z9 ((w2.setCell ⟨go,0,none⟩ (.string ⟨NM.toArray⟩)).heap[go]? =some (.cells (UU.cells ⟨NM,[],none,0,0,[],none,0,0,[]⟩).toArray yq (0,0))) (wZ VX.out 0 (.string ⟨NM.toArray⟩));clear Y4 ZG Q1 Uh VX fo oo lto c0 c1 c2;generalize w2.setCell ⟨go,0,none⟩ (.string ⟨NM.toArray⟩)=w4 at*;have c0:=y8 Vy.out 0 rfl;have c2:=y8 Vy.out 2 rfl;dsimp only[KF.cells]at c0 c2
 obtain⟨SU,Jf⟩:=Z8 (if f.su=0 then []else(yQ f.pool f.su).1)
 have Ep:=Z' Jf;have UB:=Z' (D9s Yh.out.symm Ty.out.symm Jf)
 have SD:=Z' (show SU.length<=65536 by
  rw[Jf];split
  ·simp
  exact uj Yn.out _)
 clear Jf
 go_upto_if 27 with fail
 go_cut [] (fun wx=>Hid (Below w.heap.size w wx)/\Hid (wx.heap[w.heap.size]? =some (.cells f.cells.toArray 26 (0,0)))/\Hid (wx.heap[w.heap.size+1]? =some (.cells u0.cells.toArray yq (0,0)))/\Hid (wx.heap[go]? =some (.cells (UU.cells ⟨NM,SU,none,0,0,[],none,0,0,[]⟩).toArray yq (0,0))))
 case first=>
  by_cases h0:f.su=0
  ·have e0:(f.su !=0)=false:=by simp[h0]
   have US:=Z' (Ep.out.trans (if_pos h0));clear h0
   go_wp2_with fail
   go_meet;exact⟨Yx,Vy,Tx,Z' (by rw[US.out];exact Va.out)⟩
  have e0:(f.su !=0)=true:=by simp[h0]
  have US:=Z' (Ep.out.trans (if_neg h0));clear h0;have Y4:=Z' (rV w4 f.pa f.pn f.pc f.pool f.su (HR.out.below Yx.out).pool Zg.out);unfold uK at Y4;rw[<-US.out]at Y4;generalize(yQ f.pool f.su).2=cb2 at*
  go_wp2_with fail
  refine Y4.out.mono ?_;rintro e w8 ⟨rfl,EL⟩;obtain rfl:w4=w8:=EL;have f3:=xQ Va.out 1;have z3:=y8 Va.out 1 rfl;have lz:=yG Va.out;dsimp only[UU.cells]at z3
  go_wp2_with fail
  go_meet;exact⟨Z' (Yx.out.setCell (p:=⟨go,1,none⟩) (show w.heap.size<=go by omega) _),Z' (wQ Vy.out (by omega) 1 _),Z' (wQ Tx.out (by omega) 1 _),Z' (wZ Va.out 1 _)⟩
 clear Yx Vy Tx Va c0 c2;obtain⟨Yx,Vy,Tx,Va⟩:=hcut;have c0:=y8 Vy.out 0 rfl;have c2:=y8 Vy.out 2 rfl;have o0:=y8 Va.out 0 rfl;have o1:=y8 Va.out 1 rfl;dsimp only[KF.cells,UU.cells]at c0 c2 o0 o1;have Y9:=Z' (tu wc NM (by have:=Vc.out;omega));have Zj:=Z' (tu wc SU (by have:=SD.out;omega));generalize classB NM=b1 at*;generalize classB SU=b2 at*;obtain⟨G,hG⟩:∃G,G=(b1&&(decide (f.su=0)||b2)):=⟨_,rfl⟩;have HG:=Z' hG;have Rm:=Z' (show vK f=(G&&(f.fields.all (ve f.pool)&&f.methods.all (vL f.pool))) by rw[UB.out,hG,Bool.and_assoc]);clear hG UB
 go_upto_region 7 with fail
 go_cut [51] (fun AQ wx=>AQ= .bool (!G)/\Hid (Below w.heap.size w wx)/\Hid (wx.heap[w.heap.size]? =some (.cells f.cells.toArray 26 (0,0)))/\Hid (wx.heap[w.heap.size+1]? =some (.cells u0.cells.toArray yq (0,0)))/\Hid (wx.heap[go]? =some (.cells (UU.cells ⟨NM,SU,none,0,0,[],none,0,0,[]⟩).toArray yq (0,0))))
 case first=>
  go_wp2_with fail
  refine Y9.out.mono ?_;rintro e w9 ⟨rfl,VK⟩;obtain rfl:wc=w9:=Eq.symm VK
  cases b1
  ·have HV:=Z9 (G=false) HG.out
   go_wp2_with fail
   go_meet;exact⟨by rw[HV.out];rfl,Yx,Vy,Tx,Va⟩
  by_cases h0:f.su=0
  ·have e0:(f.su !=0)=false:=by simp[h0]
   have HV:=Z' (show G=true by rw[HG.out,decide_eq_true h0];rfl);clear h0
   go_wp2_with fail
   go_meet;exact⟨by rw[HV.out];rfl,Yx,Vy,Tx,Va⟩
  have e0:(f.su !=0)=true:=by simp[h0]
  have HV:=Z' (show G=b2 by rw[HG.out,decide_eq_false h0];rfl);clear h0
  go_wp2_with fail
  refine Zj.out.mono ?_;rintro e w9 ⟨rfl,VK⟩;obtain rfl:wc=w9:=Eq.symm VK
  go_wp2_with fail
  go_meet;exact⟨by rw[HV.out],Yx,Vy,Tx,Va⟩
 clear Yx Vy Tx Va Y9 Zj HG c0 c2 o0 o1;obtain⟨rfl,Yx,Vy,Tx,Va⟩:=hcut
 cases G
 ·have YC:=Z' (Tx.out);have Xj:=Z' (Yx.out)
  go_upto_region 8 with fail
  refine wp_region_lit ?_;refine wpList_step fun K hK=> ?_
  rw[if_pos (by rfl)];go_step;refine hK _ _ ?_;clear hK K;refine wpList_store_row rfl _ _ _ rfl _ (UU.cells u0).toArray rfl rfl _ _ YC.out vD rfl (sN _) ?_
  go_wp2_with fail
  refine bodyPost_ret (x8 rfl _ _ (w.heap.size+1) yq (UU.cells u0).toArray (0,0) _ rfl (setRow_heap _ _ _ _ _ _ YC.out) underlying32 rfl vD) rfl ?_;exact⟨u0,false,rfl,(by rw[Rm.out];rfl),(fun h=>absurd h (by decide)),fun _=>rfl,ws Xj.out (by omega) _⟩
 have HC:=Z9 (RlC w wc go f) (⟨Vy.out,Tx.out,Yx.out,yG Va.out,Yd⟩)
 have HJ:=Z9 (RlJ wc wc go ⟨NM,SU,none,0,0,[],none,0,0,[]⟩) (⟨yZ.refl _ _,Va.out,⟨World.ownsRow_nil _ _ _ _,World.ownsRow_nil _ _ _ _,fun p hp=>by cases hp⟩⟩)
 replace Rm:=Z' (show vK f=(f.fields.all (ve f.pool)&&f.methods.all (vL f.pool)) by rw[Rm.out];rfl);clear Yx Vy Tx Va;have AN:∃W,W=wc:=⟨_,rfl⟩;obtain⟨W,hW⟩:=AN;rw[<-hW]at HC HJ⊢;clear hW wc;have Fm:w.heap.size+1<go:=Yd;have AP:go<W.heap.size:=HC.out.gs
 have hfn:f.fn<=64/\f.mn<=64:=by
  obtain⟨q1,q2,-⟩:=nr Yh.out.symm HR.out;exact⟨q1,q2⟩
 have Mj:=Z' (nr Yh.out.symm HR.out).2.2;have c3:=y8 (HC.out.fw HJ.out.k) 3 rfl;dsimp only[KF.cells]at c3
 go_wp2_with fail
 go_loopg [56] f.fn (fun gn i wr=>∃(j:Nat) (x:UU),j<=f.fn/\gn=f.fn-j/\i= .int .i64 j/\Hid ((f.fields.take j).all (ve f.pool)=true)/\Hid (x.p=⟨NM,SU,none,0,0,(f.fields.take j).map (vt f.pool),none,0,0,[]⟩)/\Hid (RlJ W wr go x))
 case atStart=>exact⟨0,_,by omega,by omega,by go_num,Z' (by simp),Z' rfl,HJ⟩
 clear HJ c3;obtain⟨j,x,hj,rfl,rfl,HE,HX,HJ⟩:=hrel;by_cases ZX:j<f.fn
 ·have WH:x.fields.length=j:=by
   have h1:=congrArg (fun u=>u.fields.length) HX.out;have h2:=HR.out.fields.1;simp only[UU.p,List.length_map,List.length_take]at h1;omega
  have Yf:x.fn=j:=by
   obtain⟨a9,c9,e9,h9,_⟩:=Ss.ofOwn UF.cells_length (by decide) HJ.out.w.fields
   cases e9
   rw[<-WH];exact h9.1.symm
  have Wz:=Z' Yf;have HS:=Z' (HR.out.below (HC.out.bw HJ.out.k)).fields;have XZ:(j:Int)<f.fn:=by omega
  obtain⟨EN,F1⟩:=hfn;obtain⟨bq,ofq,d,Ym,Zu,hs,q⟩:=HS.out.getC j ZX;have q0:=q 0 (by omega);have q1:=q 1 (by omega);have q2:=q 2 (by omega);rw[Nat.add_zero]at q0;simp only[KD.cells,List.getElem?_cons_zero,List.getElem?_cons_succ]at q0 q1 q2
  have YW:=Z' (show f.fields.take (j+1)=f.fields.take j++[d] by
   have YP:=(Z4 hs).1;rw[List.take_succ_eq_append_getElem YP,(Z4 hs).2])
  have B3:=Z' (List.mem_of_getElem? hs);have EF:=Ry.out d B3.out;unfold xK at EF;simp only[Bool.and_eq_true]at EF;obtain⟨⟨-,t1⟩,t2⟩:=EF;obtain⟨n0,n1,n2⟩:=uh t1;obtain⟨d0,d1,d2⟩:=uh t2;obtain⟨sb,SW⟩:=Z8 (decide (d.fl=8));have esb:(d.fl==8)=sb:=by rw[SW,Bool.eq_iff_iff,beq_iff_eq,decide_eq_true_iff]
  obtain⟨NA,G2⟩:∃NA,NA=(kAt f.pool d.nm).s:=⟨_,rfl⟩;obtain⟨DA,Hk⟩:∃DA,DA=(kAt f.pool d.ds).s:=⟨_,rfl⟩;have KX:=Z' (show yN f.pool d.nm=NA by unfold yN;rw[t1,if_pos rfl,G2]);have JV:=Z' (show yN f.pool d.ds=DA by unfold yN;rw[t2,if_pos rfl,Hk]);have EY:=Z' (show NA.length<=65536 by rw[G2];exact Yn.out _);have Ew:=Z' (show DA.length<=65536 by rw[Hk];exact Yn.out _);have Mc:=Z' HR.out.pool;have XJ:=Mc.out.1;have F4:=Zg.out;have Wt:d.nm<f.pn:=by omega
  have Pg:d.ds<f.pn:=by omega
  have YK:0<=d.nm:=by omega
  have MD:0<=d.ds:=by omega
  have Ez:d.nm<1048576:=by omega
  have EJ:d.ds<1048576:=by omega
  obtain⟨b,off,Gi,Gd,-,-,-,-,k1⟩:=Mc.out.at d.nm.toNat (by omega);obtain⟨b',off',e1,-,-,-,-,-,k2⟩:=Mc.out.at d.ds.toNat (by omega);rw[Gi]at e1
  cases e1
  have e1:((d.nm.toNat:Nat):Int)=d.nm:=Int.toNat_of_nonneg (by omega);have e2:((d.ds.toNat:Nat):Int)=d.ds:=Int.toNat_of_nonneg (by omega);rw[e1,<-G2]at k1;rw[e2,<-Hk]at k2;have Xm:=Z' k1;have Na:=Z' k2;have VP:=Z' SW;have Jm:=Z' Gi;clear hs q ZX HS WH Yf t1 t2 n0 n1 n2 d0 d1 d2 e1 e2 k1 k2 G2 Hk SW XJ Mc Gi F4
  go_upto_region 12 with fail
  have Yy:=yV wr (.cells #[.int .i64 d.fl,.int .i64 d.nm,.int .i64 d.ds] 75);have Zc:=Z' ((HJ.out.below Yy).below (Z6.drew));have VJ:=Z9 ((wr.alloc (.cells #[.int .i64 d.fl,.int .i64 d.nm,.int .i64 d.ds] 75)).drew.heap[wr.heap.size]? =some (.cells d.cells.toArray 75 (0,0))) (heap_alloc_last wr (.cells #[.int .i64 d.fl,.int .i64 d.nm,.int .i64 d.ds] 75));clear Yy HJ q0 q1 q2 Ym Zu;generalize wr.heap.size=gd at*
  go_cut [7] (fun s7 wx=>∃gy:Nat,s7= .pointer (some ⟨gy,0,none⟩)/\Hid (RlJ W wx go x)/\Hid (wx.heap[gy]? =some (.cells (UF.cells ⟨sb,NA,DA⟩).toArray 52 (0,0))))
  case first=>
   refine ye (QL w.heap.size gd b (off+d.nm.toNat*5+4) (off+d.ds.toNat*5+4) f d NA DA) (.of [(0,true),(1,true),(2,true),(3,true),(4,true),(5,true),(6,true),(7,true),(8,true),(9,true),(10,true),(11,true),(12,true),(13,true),(14,true),(15,true),(16,true),(17,true),(18,false),(19,false)] (.stir [])) (by kernel_rfl) (by kernel_rfl) (fun c a d v w h=>by cases d<;>exact h) ?_
   generalize(wr.alloc (.cells #[.int .i64 d.fl,.int .i64 d.nm,.int .i64 d.ds] 75)).drew=V0 at*;have Nm:=HC.out.bw Zc.out.k;have Z3:QL w.heap.size gd b (off+d.nm.toNat*5+4) (off+d.ds.toNat*5+4) f d NA DA V0:=⟨⟨HC.out.fw Zc.out.k,VJ.out⟩,yF Nm Xm.out,yF Nm Na.out⟩;have K':w.heap.size<V0.heap.size/\gd<V0.heap.size/\b<V0.heap.size:=⟨yG (HC.out.fw Zc.out.k),yG VJ.out,by have:=Nm.size;omega⟩;have GA:=Z' K';clear K' Nm;have l0:=fun z (h:QL w.heap.size gd b (off+d.nm.toNat*5+4) (off+d.ds.toNat*5+4) f d NA DA z)=>y8 h.1.2 0 rfl
   have l1:=fun z (h:QL w.heap.size gd b (off+d.nm.toNat*5+4) (off+d.ds.toNat*5+4) f d NA DA z)=>y8 h.1.2 1 rfl
   have l2:=fun z (h:QL w.heap.size gd b (off+d.nm.toNat*5+4) (off+d.ds.toNat*5+4) f d NA DA z)=>y8 h.1.2 2 rfl
   have l3:=fun z (h:QL w.heap.size gd b (off+d.nm.toNat*5+4) (off+d.ds.toNat*5+4) f d NA DA z)=>y8 h.1.1 0 rfl
   have l4:=fun z (h:QL w.heap.size gd b (off+d.nm.toNat*5+4) (off+d.ds.toNat*5+4) f d NA DA z)=>h.2.1
   have l5:=fun z (h:QL w.heap.size gd b (off+d.nm.toNat*5+4) (off+d.ds.toNat*5+4) f d NA DA z)=>h.2.2
   dsimp only[KD.cells,KF.cells]at l0 l1 l2 l3;rw[Jm.out]at l3
   iterate 18
    refine yY fun K hK=>tkF ?_
    go_simp
    try go_bits
    refine hK _ _ ?_;clear hK K
   refine yY fun K hK=>alF ?_
   go_step;have ZY:=yV V0 (.cells #[.bool false,.string ⟨#[]⟩,.string ⟨#[]⟩] 52);have HG:=Z' (heap_alloc_last V0 (.cells #[.bool false,.string ⟨#[]⟩,.string ⟨#[]⟩] 52));have ZZ:QL w.heap.size gd b (off+d.nm.toNat*5+4) (off+d.ds.toNat*5+4) f d NA DA (V0.alloc (.cells #[.bool false,.string ⟨#[]⟩,.string ⟨#[]⟩] 52)):=Z3.below ZY;have YB:=Z' (Zc.out.below ZY);have Yx:=Z' ZY;refine⟨ZZ,hK _ _ ?_⟩;clear hK K Z3 ZZ ZY;generalize V0.alloc _=V1 at*;have Hi:V0.heap.size<=V0.heap.size:=Nat.le_refl _;refine yY fun K hK=>alF ?_
   refine wp_store_row 52 _ _ rfl V0.heap.size (UF.cells ⟨sb,NA,DA⟩).toArray rfl rfl 52 (UF.cells ⟨false,[],[]⟩).toArray HG.out pp rfl (ny _) ?_;have M7:Below V0.heap.size V0 (V1.setRow V0.heap.size (UF.cells ⟨sb,NA,DA⟩).toArray):=ws Yx.out Hi _;have ZB:=Z' (Zc.out.below M7);have ZZ:QL w.heap.size gd b (off+d.nm.toNat*5+4) (off+d.ds.toNat*5+4) f d NA DA (V1.setRow V0.heap.size (UF.cells ⟨sb,NA,DA⟩).toArray):=QL.row ⟨⟨HC.out.fw Zc.out.k,VJ.out⟩,yF (HC.out.bw Zc.out.k) Xm.out,yF (HC.out.bw Zc.out.k) Na.out⟩ M7 GA.out;have Vu:=Z' (setRow_heap V1 V0.heap.size _ (UF.cells ⟨sb,NA,DA⟩).toArray _ _ HG.out);refine⟨ZZ,hK _ _ ?_⟩;clear hK K HG M7 Yx YB;generalize V1.setRow V0.heap.size (UF.cells ⟨sb,NA,DA⟩).toArray=VZ at*;refine yA (fun y=>y=VZ) (fun y hy=>hy▸ZZ) rfl ?_;refine yE (fun y hy=> ?_);obtain rfl:VZ=y:=Eq.symm hy;clear ZZ
   go_wp2_with fail
   go_meet;exact⟨_,rfl,ZB,Vu⟩
  clear Zc VJ Xm Na esb Wt Pg YK MD Ez EJ;obtain⟨gy,rfl,ZB,U0⟩:=hcut;have KA:=Z' (show vt f.pool d=⟨sb,NA,DA⟩ by unfold vt;rw[KX.out,JV.out,VP.out]);have Ma:=Z' (show ve f.pool d=(yk NA&&typeB DA) by unfold ve;rw[KX.out,JV.out]);have Y9:=Z' (pG wc NA EY.out);have Zj:=Z' (qL wc DA Ew.out)
  have Xy:=Z9 (∀h:ve f.pool d=false,f.fields.all (ve f.pool)=false) (fun h=>by
   rw[List.all_eq_false];exact⟨d,B3.out,by rw[h];decide⟩)
  generalize yk NA=b1 at*;generalize typeB DA=b2 at*;have z0:=y8 U0.out 0 rfl;have z1:=y8 U0.out 1 rfl;have z2:=y8 U0.out 2 rfl;dsimp only[UF.cells]at z0 z1 z2
  go_wp2_with fail
  refine Y9.out.mono ?_;rintro e w9 ⟨rfl,VK⟩;obtain rfl:wc=w9:=Eq.symm VK
  cases b1
  ·have WL:=Z' (Xy.out (by rw[Ma.out];rfl));have YC:=Z' (HC.out.zw ZB.out.k);have Xj:=Z' (HC.out.bw ZB.out.k)
   go_upto_region 14 with fail
   refine wp_region_lit ?_;refine wpList_step fun K hK=> ?_
   rw[if_pos (by rfl)];go_step;refine hK _ _ ?_;clear hK K;refine wpList_store_row rfl _ _ _ rfl _ (UU.cells u0).toArray rfl rfl _ _ YC.out vD rfl (sN _) ?_
   go_wp2_with fail
   refine bodyPost_ret (x8 rfl _ _ (w.heap.size+1) yq (UU.cells u0).toArray (0,0) _ rfl (setRow_heap _ _ _ _ _ _ YC.out) underlying32 rfl vD) rfl ?_;exact⟨u0,false,rfl,(by rw[Rm.out,WL.out];rfl),(fun h=>absurd h (by decide)),fun _=>rfl,ws Xj.out (by omega) _⟩
  go_wp2_with fail
  refine Zj.out.mono ?_;rintro e w9 ⟨rfl,VK⟩;obtain rfl:wc=w9:=Eq.symm VK
  cases b2
  ·have WL:=Z' (Xy.out (by rw[Ma.out];rfl));have YC:=Z' (HC.out.zw ZB.out.k);have Xj:=Z' (HC.out.bw ZB.out.k)
   go_upto_region 14 with fail
   refine wp_region_lit ?_;refine wpList_step fun K hK=> ?_
   rw[if_pos (by rfl)];go_step;refine hK _ _ ?_;clear hK K;refine wpList_store_row rfl _ _ _ rfl _ (UU.cells u0).toArray rfl rfl _ _ YC.out vD rfl (sN _) ?_
   go_wp2_with fail
   refine bodyPost_ret (x8 rfl _ _ (w.heap.size+1) yq (UU.cells u0).toArray (0,0) _ rfl (setRow_heap _ _ _ _ _ _ YC.out) underlying32 rfl vD) rfl ?_;exact⟨u0,false,rfl,(by rw[Rm.out,WL.out];rfl),(fun h=>absurd h (by decide)),fun _=>rfl,ws Xj.out (by omega) _⟩
  have o2:=y8 ZB.out.o 2 rfl;dsimp only[UU.cells]at o2;have XM:x.fn<=65536:=by rw[Wz.out];omega
  clear Xy Y9 Zj
  go_wp2_with (at_builtin;refine wU eX rfl _ _ rfl W.heap.size _ x.fn _ rfl ZB.out.w.fields _ 1 _ _ rfl rfl rfl rfl (by omega) (by unfold maxLen;omega) ZB.out.k.size ?_;intro v9 w9 Z0 ZA ZK;have ZU:=yd.app ZB.out.w.fields ZA;have ZW:w9.ownsRow W.heap.size 52 3 v9 (x.fn+1) ((x.fields++[(⟨sb,NA,DA⟩:UF)]).flatMap UF.cells):=(by rw[List.flatMap_append];exact Z0);obtain⟨a9,c9,rfl,-,-⟩:=Ss.ofOwn UF.cells_length (by decide) ZW;have Yc:yZ (fun k=>W.heap.size<=k) wc w9:=yZ.ofB ZK (Nat.le_trans (by simp) ZA.size);have ZC:=Z' (ZB.out.app Yc ZU (ZB.out.w.fields1 ZU ZW) HC.out.gs);have fo:=xQ ZC.out.2.1 2;have lto:=yG ZC.out.2.1;have co:=y8 ZC.out.2.1 2 rfl;dsimp only[UU.cells]at co;clear Z0 ZW ZA ZK ZU Yc)
  have YE:=ZC.out.2.2 2 (.slice a9 (x.fn+1) c9) rfl;have YM:=Z' (UU.p_fields1 HX.out a9 (x.fn+1) c9 (⟨sb,NA,DA⟩:UF));have Yj:=Z' YE
  have XX:=Z' (show UU.p {x with fa:=a9,fn:=x.fn+1,fc:=c9,fields:=x.fields++[(⟨sb,NA,DA⟩:UF)]}=⟨NM,SU,none,0,0,(f.fields.take (j+1)).map (vt f.pool),none,0,0,[]⟩ by
   rw[YM.out,YW.out,List.map_append,List.map_singleton,KA.out])
  have XP:=Z' (show(f.fields.take (j+1)).all (ve f.pool)=true by
   rw[YW.out,List.all_append,HE.out];simp[Ma.out])
  clear YE YM ZC HX HE ZB U0 fo lto co z0 z1 z2 o2;go_roundg (f.fn-(j+1))
  case measure=>omega
  exact⟨j+1,_,by omega,rfl,by go_num,XP,XX,Yj⟩
 have Td:j=f.fn:=by omega
 have ZV:f.fields.take j=f.fields:=List.take_of_length_le (by rw[HR.out.fields.1];omega);rw[ZV]at HE HX;have Wt:¬((j:Int)<f.fn):=by omega
 clear Td;have c4:=y8 (HC.out.fw HJ.out.k) 4 rfl;dsimp only[KF.cells]at c4
 go_wp2_with fail
 go_loopg [99] f.mn (fun gn i JT=>∃(jm:Nat) (x5:UU),jm<=f.mn/\gn=f.mn-jm/\i= .int .i64 jm/\Hid ((f.methods.take jm).all (vL f.pool)=true)/\Hid (x5.p=⟨NM,SU,none,0,0,f.fields.map (vt f.pool),none,0,0,(f.methods.take jm).map (vC f.pool)⟩)/\Hid (RlJ W JT go x5))
 case atStart=>exact⟨0,x,by omega,by omega,by go_num,Z' (by simp),Z' (by rw[HX.out];rfl),HJ⟩
 clear HJ HX c4;obtain⟨jm,x5,DW,rfl,rfl,T5,Wa,Yb⟩:=hrel;by_cases ZX:jm<f.mn
 ·have WH:x5.methods.length=jm:=by
   have h1:=congrArg (fun u=>u.methods.length) Wa.out;have h2:=HR.out.methods.1;simp only[UU.p,List.length_map,List.length_take]at h1;omega
  have Yf:x5.mn=jm:=by
   obtain⟨a9,c9,e9,h9,_⟩:=Ss.ofOwn UM.cells_length (by decide) Yb.out.w.methods
   cases e9
   rw[<-WH];exact h9.1.symm
  have Wz:=Z' Yf;have HS:=Z' (HR.out.below (HC.out.bw Yb.out.k)).methods;have XZ:(jm:Int)<f.mn:=by omega
  obtain⟨EN,F1⟩:=hfn;obtain⟨bq,ofq,m,Ym,Zu,hs,q⟩:=HS.out.getC jm ZX;have q0:=q 0 (by omega);have q1:=q 1 (by omega);have q2:=q 2 (by omega);have q3:=q 3 (by omega);have q4:=q 4 (by omega);have q5:=q 5 (by omega);have q6:=q 6 (by omega);have q7:=q 7 (by omega);rw[Nat.add_zero]at q0;simp only[KM.cells,List.getElem?_cons_zero,List.getElem?_cons_succ]at q0 q1 q2 q3 q4 q5 q6 q7
  have YW:=Z' (show f.methods.take (jm+1)=f.methods.take jm++[m] by
   have YP:=(Z4 hs).1;rw[List.take_succ_eq_append_getElem YP,(Z4 hs).2])
  have Pq:=Z' (List.mem_of_getElem? hs);clear hs q ZX HS WH Yf
  go_upto_region 20 with fail
  have Yy:=yV wr (.cells #[.int .i64 m.fl,.int .i64 m.nm,.int .i64 m.ds,.int .i64 m.st,.int .i64 m.lo,.slice m.ca m.cn m.cc,.slice m.ta m.tn m.tc,.slice m.ma m.mn m.mc] 65);have Zc:=Z' (Yb.out.below Yy);have Ur:=Z9 ((wr.alloc (.cells #[.int .i64 m.fl,.int .i64 m.nm,.int .i64 m.ds,.int .i64 m.st,.int .i64 m.lo,.slice m.ca m.cn m.cc,.slice m.ta m.tn m.tc,.slice m.ma m.mn m.mc] 65)).heap[wr.heap.size]? =some (.cells m.cells.toArray 65 (0,0))) (heap_alloc_last wr (.cells #[.int .i64 m.fl,.int .i64 m.nm,.int .i64 m.ds,.int .i64 m.st,.int .i64 m.lo,.slice m.ca m.cn m.cc,.slice m.ta m.tn m.tc,.slice m.ma m.mn m.mc] 65));clear Yy Yb q0 q1 q2 q3 q4 q5 q6 q7 Ym Zu;generalize wr.alloc _=w6 at*;generalize wr.heap.size=gm at*;have p0:=y8 Ur.out 0 rfl;have p1:=y8 Ur.out 1 rfl;have p2:=y8 Ur.out 2 rfl;have p3:=y8 Ur.out 3 rfl;have p4:=y8 Ur.out 4 rfl;have p5:=y8 Ur.out 5 rfl;have p6:=y8 Ur.out 6 rfl;have p7:=y8 Ur.out 7 rfl;have c0:=y8 (HC.out.fw Zc.out.k) 0 rfl;dsimp only[KM.cells,KF.cells]at p0 p1 p2 p3 p4 p5 p6 p7 c0;have LZ:=Z' (HR.out.below (HC.out.bw Zc.out.k));have CH:=Z' (D4a w6 f.pa f.pn f.pc f.pool m LZ.out.pool Zg.out Yn.out Wg.out (LZ.out.each m Pq.out) (Mj.out m Pq.out));have D2:W.heap.size<=w6.heap.size:=Zc.out.k.size
  go_wp2_with fail
  refine CH.out.mono ?_;rintro e w7 ⟨y,ok,rfl,XC,hy,Xr⟩;obtain⟨xst,xnm,xds,xsk,xlo,xca,xcn,xcc,xcode,xta,xtn,xtc,xtr,xma,xmn,xmc,xmp⟩:=y;have YB:=Z' (Zc.out.below Xr);have Tp:=Z' XC;have Q6:=Z' hy;clear XC hy Xr Zc CH Ur LZ p0 p1 p2 p3 p4 p5 p6 p7 c0;dsimp only[UM.cells]
  go_upto_region 21 with fail
  have ZY:=yV w7 (.cells #[.bool xst,.string ⟨xnm.toArray⟩,.string ⟨xds.toArray⟩,.int .i64 xsk,.int .i64 xlo,.slice xca xcn xcc,.slice xta xtn xtc,.slice xma xmn xmc] yT);have ZB:=Z' (YB.out.below ZY);have Xb:=Z' (heap_alloc_last w7 (.cells #[.bool xst,.string ⟨xnm.toArray⟩,.string ⟨xds.toArray⟩,.int .i64 xsk,.int .i64 xlo,.slice xca xcn xcc,.slice xta xtn xtc,.slice xma xmn xmc] yT));have Cq:=Z' (fun h=>show UM.p ⟨xst,xnm,xds,xsk,xlo,xca,xcn,xcc,xcode,xta,xtn,xtc,xtr,xma,xmn,xmc,xmp⟩=vC f.pool m/\UM.Own (⟨xst,xnm,xds,xsk,xlo,xca,xcn,xcc,xcode,xta,xtn,xtc,xtr,xma,xmn,xmc,xmp⟩:UM) (w7.alloc (.cells #[.bool xst,.string ⟨xnm.toArray⟩,.string ⟨xds.toArray⟩,.int .i64 xsk,.int .i64 xlo,.slice xca xcn xcc,.slice xta xtn xtc,.slice xma xmn xmc] yT)) W.heap.size from⟨(Q6.out h).1,((Q6.out h).2.keepP (yZ.of (p:=fun _=>False) ZY) (fun _ hx=>hx.elim)).mono D2⟩);clear ZY YB Q6;generalize w7.alloc _=wc at*;generalize w7.heap.size=gx at*
  cases ok
  ·have WL:=Z' (show f.methods.all (vL f.pool)=false by
    rw[List.all_eq_false];exact⟨m,Pq.out,by rw[<-Tp.out];decide⟩)
   have YC:=Z' (HC.out.zw ZB.out.k);have Xj:=Z' (HC.out.bw ZB.out.k)
   go_upto_region 22 with fail
   refine wp_region_lit ?_;refine wpList_step fun K hK=> ?_
   rw[if_pos (by rfl)];go_step;refine hK _ _ ?_;clear hK K;refine wpList_store_row rfl _ _ _ rfl _ (UU.cells u0).toArray rfl rfl _ _ YC.out vD rfl (sN _) ?_
   go_wp2_with fail
   refine bodyPost_ret (x8 rfl _ _ (w.heap.size+1) yq (UU.cells u0).toArray (0,0) _ rfl (setRow_heap _ _ _ _ _ _ YC.out) underlying32 rfl vD) rfl ?_;exact⟨u0,false,rfl,(by rw[Rm.out,WL.out];simp),(fun h=>absurd h (by decide)),fun _=>rfl,ws Xj.out (by omega) _⟩
  have E0:=Z' (Cq.out (by trivial));clear Cq;have z0:=y8 Xb.out 0 rfl;have z1:=y8 Xb.out 1 rfl;have z2:=y8 Xb.out 2 rfl;have z3:=y8 Xb.out 3 rfl;have z4:=y8 Xb.out 4 rfl;have z5:=y8 Xb.out 5 rfl;have z6:=y8 Xb.out 6 rfl;have z7:=y8 Xb.out 7 rfl;have o3:=y8 ZB.out.o 3 rfl;dsimp only[UU.cells]at o3;have XM:x5.mn<=65536:=by rw[Wz.out];omega
  go_wp2_with (at_builtin;refine wU kH rfl _ _ rfl W.heap.size _ x5.mn _ rfl ZB.out.w.methods _ 1 _ _ rfl rfl rfl rfl (by omega) (by unfold maxLen;omega) ZB.out.k.size ?_;intro v9 w9 Z0 ZA ZK;have ZU:=yd.app ZB.out.w.methods ZA;have ZW:w9.ownsRow W.heap.size yT 8 v9 (x5.mn+1) ((x5.methods++[(⟨xst,xnm,xds,xsk,xlo,xca,xcn,xcc,xcode,xta,xtn,xtc,xtr,xma,xmn,xmc,xmp⟩:UM)]).flatMap UM.cells):=(by rw[List.flatMap_append];exact Z0);obtain⟨a9,c9,rfl,-,-⟩:=Ss.ofOwn UM.cells_length (by decide) ZW;have Yc:yZ (fun k=>W.heap.size<=k) wc w9:=yZ.ofB ZK (Nat.le_trans (by simp) ZA.size);have ZC:=Z' (ZB.out.app Yc ZU (ZB.out.w.methods1 ZU ZW (E0.out.2.keptT ZU (by decide) (by decide) (by decide) (by decide))) HC.out.gs);have fo:=xQ ZC.out.2.1 3;have lto:=yG ZC.out.2.1;have co:=y8 ZC.out.2.1 3 rfl;dsimp only[UU.cells]at co;clear Z0 ZW ZA ZK ZU Yc)
  have YE:=ZC.out.2.2 3 (.slice a9 (x5.mn+1) c9) rfl;have YM:=Z' (UU.p_methods1 Wa.out a9 (x5.mn+1) c9 (⟨xst,xnm,xds,xsk,xlo,xca,xcn,xcc,xcode,xta,xtn,xtc,xtr,xma,xmn,xmc,xmp⟩:UM));have Yj:=Z' YE
  have XX:=Z' (show UU.p {x5 with ma:=a9,mn:=x5.mn+1,mc:=c9,methods:=x5.methods++[(⟨xst,xnm,xds,xsk,xlo,xca,xcn,xcc,xcode,xta,xtn,xtc,xtr,xma,xmn,xmc,xmp⟩:UM)]}=⟨NM,SU,none,0,0,f.fields.map (vt f.pool),none,0,0,(f.methods.take (jm+1)).map (vC f.pool)⟩ by
   rw[YM.out,YW.out,List.map_append,List.map_singleton,E0.out.1])
  have XP:=Z' (show(f.methods.take (jm+1)).all (vL f.pool)=true by
   rw[YW.out,List.all_append,T5.out];simp[<-Tp.out])
  clear YE YM ZC Wa T5 ZB Xb Tp E0 fo lto co z0 z1 z2 z3 z4 z5 z6 z7 o3;go_roundg (f.mn-(jm+1))
  case measure=>omega
  exact⟨jm+1,_,by omega,rfl,by go_num,XP,XX,Yj⟩
 have Td:jm=f.mn:=by omega
 have ZV:f.methods.take jm=f.methods:=List.take_of_length_le (by rw[HR.out.methods.1];omega);rw[ZV]at T5 Wa;have Ga:¬((jm:Int)<f.mn):=by omega
 clear Td;have LQ:=Z' (show ue f=⟨NM,SU,none,0,0,f.fields.map (vt f.pool),none,0,0,f.methods.map (vC f.pool)⟩ by unfold ue;rw[Ty.out,Ep.out]);have YC:=Z' (HC.out.zw Yb.out.k)
 go_upto_region 25 with fail
 refine wp_region_lit ?_;refine xN rfl _ _ rfl _ rfl _ _ _ _ Yb.out.o underlying32 rfl vD ?_;refine wpList_store_row rfl _ _ _ rfl _ _ rfl rfl _ _ YC.out vD rfl (sN _) ?_
 go_wp2_with fail
 refine bodyPost_ret (x8 rfl _ _ (w.heap.size+1) yq (UU.cells _).toArray (0,0) _ rfl (setRow_heap _ _ _ _ _ _ YC.out) underlying32 rfl vD) rfl ?_;exact⟨_,true,rfl,(by rw[Rm.out,HE.out,T5.out];rfl),(fun _=>⟨Wa.out.trans LQ.out.symm,(Yb.out.w.keepP (yZ.setrow (yZ.refl (fun k=>k=w.heap.size+1) _) (.inl rfl) _) (fun y hy=> .inl (by have:=HC.out.gs;have:=HC.out.g1;omega))).mono HC.out.b.size⟩),(fun h=>absurd h (by decide)),ws (HC.out.bw Yb.out.k) (by omega) _⟩
end
section
open Go.ChangeShapes Go.WideShapes Go.ChangeAt Go.RowKit Go.Joins Go.Deep
section
variable {H:Type} {enc:TypeId×Value->H} {w:World} {r:Reach} {b0:Nat} {v:Value} {d:DataW H} {p:List MemPlace}
end
theorem vw_of{W:World}{r:List (String×DataW Unit)}(ED:W.ShapedOpen prog)(_:laidMet prog r W):VW W:=
 ⟨cell_of_shapedOpen_int (t:=3) (k:= .i64) ED (g:=0) (of_decide_eq_true (by kernel_rfl)) (zero:= #[.int .i64 0]) (by kernel_rfl) rfl (by kernel_rfl) (by kernel_rfl) underlying3⟩
theorem handed_and_shaped{H:Type}{enc:TypeId×Value->H}{a:Assume}{C:Checked}{os:Os}{f:FuncId}{fn:Func}{s:ChangeSpec}{conds:List PathCond}{apart fresh SC again:Bool}{X:World->Array Value->Prop}
  (hX:∀(w w':World) (args:Array Value),w.heap=w'.heap->X w args->X w' args)
  (own:ownKnob C.prog.godebug=none) (started:os.Started) (noInit:C.prog.inits.idxOf? f=none) (hfn:C.prog.funcs[f]? =some fn)
  (witness:∃(w:World) (tape:Tape) (i:Input),w.os=os/\(w.forCall tape i).Shaped C.prog/\i.vars=[]/\Input.okWide C.prog (w.forCall tape i) .any w.heap.size f i/\
   ((s.pre enc C.prog fn conds apart (w.forCall tape i).memory i.args/\X (w.forCall tape i).memory i.args)/\sizedMet enc C.prog fn (OpenSpec.ofChange s) apart (w.forCall tape i).memory i.args)/\a.holds C.prog (lone (Frame.enter C.prog f i.args .normal) [] (w.forCall tape i)))
  (contract:∀(W:World) (base:Nat) (args:Array Value) (ds gs:List (DataW H)) (before:List MemPlace),
   (∀(j:Nat) t v,fn.params[j]? =some t->args[j]? =some v->Value.okWide C.prog W .any base t v)->
   DataW.Whole enc C.prog fn.params.toList s.vars apart W args.toList ds gs before->
   conds.all (PathCond.test C.prog ⟨fn.params.toList,ds,s.plain.varTypes C.prog,gs⟩)=true->
   (DataW.weightsEach C.prog (fn.params.toList++s.plain.varTypes C.prog) (ds++gs)).all (·<=reachBytes)=true->X W args->W.ShapedOpen C.prog->
   a.holds C.prog (lone (Frame.enter C.prog f args .normal) [] W)->
   Calls C.prog f args W fun e W'=>∃v,e= .returned v/\s.post enc C.prog fn apart fresh SC again W args v W'):
  ReturnsInHanded a C os f .any (fun w args=>(s.pre enc C.prog fn conds apart w args/\X w args)/\sizedMet enc C.prog fn (OpenSpec.ofChange s) apart w args) (s.post enc C.prog fn apart fresh SC again):=by
 refine returnsInHanded_of_calls own started noInit witness ?_;intro w tape i _ ED _ XC Wu Nf;obtain⟨_,_,_,fn',KH,_,_,_,_,hval⟩:=XC;have e:fn'=fn:=Option.some.inj (KH.symm.trans hfn);subst e;obtain⟨⟨⟨ds,gs,before,hw,hc⟩,hx⟩,hz⟩:=Wu;have Ax:=DataW.Whole.of_heap (w':=w.forCall tape i) (by rfl) hw;refine(contract (w.forCall tape i) w.heap.size i.args ds gs before hval Ax hc (hz.weights hw) (hX _ _ _ (by rfl) hx) ED Nf).mono fun e W' ⟨v,he,hp⟩=> ?_
 subst he;exact ChangeSpec.post_blind hp
structure InB(x:IN):Prop where
 op:x.op<256
 n:yw x.n
 m:yw x.m
 cl:x.cl.length<=140737488351232
 nm:x.nm.length<=140737488351232
 ds:x.ds.length<=140737488351232
 tx:x.tx.length<=140737488351232
structure UP.Big(p:UP):Prop where
 ln:p.ln<=140737488355328
 sn:p.sn<=140737488355328
 lt:∀t∈p.loc,t.length<=140737488351232
 st:∀t∈p.stk,t.length<=140737488351232
structure UM.Big(m:UM):Prop where
 nm:m.nm.length<=140737488351232
 ds:m.ds.length<=140737488351232
 cn:m.cn<=140737488355328
 tn:m.tn<=140737488355328
 mn:m.mn<=140737488355328
 ins:∀x∈m.code,InB x
 tr:∀t∈m.traps,t.cl.length<=140737488351232
 mp:∀p∈m.maps,p.Big
structure UU.Big(u:UU):Prop where
 nm:u.nm.length<=140737488351232
 su:u.su.length<=140737488351232
 fn:u.fn<=140737488355328
 mn:u.mn<=140737488355328
 fd:∀f∈u.fields,f.nm.length<=140737488351232/\f.ds.length<=140737488351232
 mt:∀m∈u.methods,m.Big
end
section
open Go.ChangeShapes Go.WideShapes Go.ChangeAt Go.RowKit
def qT(x:IN):Nat:=(x.cl.length+x.nm.length+x.ds.length+x.tx.length)/100
def pU(t:UT):Nat:=t.cl.length/100
def nF(t:List UInt8):Nat:=t.length/100
def pY(p:UP):Nat:=1+p.ln+p.sn+((p.loc++p.stk).map nF).sum
def p'(m:UM):Nat:=1+m.cn+m.tn+(m.nm.length+m.ds.length)/50+(m.code.map qT).sum+(m.traps.map pU).sum+(m.maps.map pY).sum
def qY(f:UF):Nat:=1+(f.nm.length+f.ds.length)/50
def kC(u:UU):Nat:=(u.fields.map qY).sum+(u.methods.map p').sum
def dV(u:UU):Prop:=u.fn<=70/\u.mn<=40/\u.nm.length+u.su.length<=300/\kC u<=600
theorem ri{α:Type}{l:List α}{j:Nat}{x:α}(f:α->Nat)(h:l[j]? =some x):((l.take (j+1)).map f).sum=((l.take j).map f).sum+f x:=by
 obtain⟨hj,he⟩:=Z4 h;rw[List.take_succ_eq_append_getElem hj,he];simp
theorem D7t(w:World)(u:UU)(h:u.Rd w)(hb:u.Big):
  Calls prog 13 #[.agg u.cells.toArray] w (vQ (dV u) w):=by
 obtain⟨P,hP⟩:=Z8 (dV u);rw[<-hP];have HX:=Z' h;have M2:=Z' hb;have hfn:=hb.fn;have Rn:=hb.mn;have hnm:=hb.nm;have LU:=hb.su;have VN:=Z' h.fields.1;have Fg:=Z' h.methods.1;have HP:=Z9 (P=(u.fn<=70/\u.mn<=40/\u.nm.length+u.su.length<=300/\kC u<=600)) hP;clear h hb hP;have ZY:=yV w (.cells #[.string ⟨u.nm.toArray⟩,.string ⟨u.su.toArray⟩,.slice u.fa u.fn u.fc,.slice u.ma u.mn u.mc] yq);have SA:=Z' (heap_alloc_last w (.cells #[.string ⟨u.nm.toArray⟩,.string ⟨u.su.toArray⟩,.slice u.fa u.fn u.fc,.slice u.ma u.mn u.mc] yq));have Zp:=Z' ZY;clear ZY;change Calls prog 13 #[.agg #[.string ⟨u.nm.toArray⟩,.string ⟨u.su.toArray⟩,.slice u.fa u.fn u.fc,.slice u.ma u.mn u.mc]] w (vQ P w);go_enter func13,ntmps13
 go_upto_region 1 with fail
 generalize w.alloc _=W0 at*;have c0:=y8 SA.out 0 rfl;have c1:=y8 SA.out 1 rfl;have c2:=y8 SA.out 2 rfl;have c3:=y8 SA.out 3 rfl;by_cases h1:70<u.fn
 ·have ed:decide ((70:Int)<u.fn)=true:=by simp;omega
  go_wp2_with fail
  go_ret;exact vQ.no rfl Zp.out
 have ed:decide ((70:Int)<u.fn)=false:=by simp;omega
 by_cases h2:40<u.mn
 ·have ee:decide ((40:Int)<u.mn)=true:=by simp;omega
  go_wp2_with fail
  go_ret;exact vQ.no rfl Zp.out
 have ee:decide ((40:Int)<u.mn)=false:=by simp;omega
 by_cases h3:300<u.nm.length+u.su.length
 ·have ef:decide ((300:Int)<(u.nm.length:Int)+u.su.length)=true:=by simp;omega
  have eg:decide (300<u.nm.length+u.su.length)=true:=by simp;omega
  have eh:decide ((300:Int)<((u.nm.length+u.su.length:Nat):Int))=true:=by simp;omega
  go_wp2_with fail
  go_ret;exact vQ.no rfl Zp.out
 have ef:decide ((300:Int)<(u.nm.length:Int)+u.su.length)=false:=by simp;omega
 have eg:decide (300<u.nm.length+u.su.length)=false:=by simp;omega
 have eh:decide ((300:Int)<((u.nm.length+u.su.length:Nat):Int))=false:=by simp;omega
 have RD:=Z' (And.intro h1 (And.intro h2 h3));clear h3
 go_wp2_with fail
 clear ef eg eh
 go_loopg [3,39] u.fn (fun gn left i wr=>∃(j c:Nat),j<=u.fn/\gn=u.fn-j/\left= .int .i64 (600-(c:Int))/\i= .int .i64 j/\Hid (c=((u.fields.take j).map qY).sum)/\c<=j*5700000000000/\Hid (Below W0.heap.size W0 wr))
 case atStart=>exact⟨0,0,by omega,by omega,by go_num,by go_num,Z' (by simp),by omega,Z' Z6⟩
 clear c0 c1 c2 c3;obtain⟨j,c,hj,rfl,rfl,rfl,HC,NU,HB⟩:=hrel;by_cases ZX:j<u.fn
 ·have XZ:(j:Int)<u.fn:=by omega
  have HS:=Z' (HX.out.below (Zp.out.trans (HB.out.mono Zp.out.size))).fields;obtain⟨bq,ofq,f,Ym,Zu,hs,q⟩:=HS.out.getC j ZX;have q0:=q 0 (by omega);have q1:=q 1 (by omega);have q2:=q 2 (by omega);rw[Nat.add_zero]at q0;simp only[UF.cells,List.getElem?_cons_zero,List.getElem?_cons_succ]at q0 q1 q2;have YW:=Z' (ri qY hs);obtain⟨k1,k2⟩:=M2.out.fd f (List.mem_of_getElem? hs);obtain⟨d,hd⟩:∃d,d=(f.nm.length+f.ds.length)/50:=⟨_,rfl⟩;have HD:=Z' (show qY f=1+d by rw[hd];rfl);have zW:d<=5629499534050:=by omega
  have hq:Int.tdiv ((f.nm.length:Int)+f.ds.length) 50=(d:Int):=by rw[hd,Int.tdiv_eq_ediv_of_nonneg (by omega)];omega
  have Fq:((f.nm.length:Int)+f.ds.length)/50=(d:Int):=by rw[hd];omega
  have CM:(f.nm.length+f.ds.length)/50=d:=hd.symm;clear hs q ZX HS hd
  go_wp2_with fail
  go_roundg (u.fn-(j+1))
  case measure=>omega
  exact⟨j+1,c+(1+d),by omega,rfl,by go_num,by go_num,Z' (by rw[YW.out,HD.out,<-HC.out]),by omega,Z' (HB.out.alloc HB.out.size _)⟩
 have Td:j=u.fn:=by omega
 have ZV:u.fields.take j=u.fields:=List.take_of_length_le (by rw[VN.out];omega);have Mp:=Z' (show c=(u.fields.map qY).sum by rw[HC.out,ZV]);have Wt:¬((j:Int)<u.fn):=by omega
 have J6:c<=400000000000000:=by omega
 clear Td ZV HC;have Y9:=Z' (yW SA.out HB.out);have m3:=y8 Y9.out 3 rfl
 go_wp2_with fail
 go_loopg [3,58] u.mn (fun gn left i wr=>∃(jm c:Nat),jm<=u.mn/\gn=u.mn-jm/\left= .int .i64 (600-(c:Int))/\i= .int .i64 jm/\Hid (c=(u.fields.map qY).sum+((u.methods.take jm).map p').sum)/\(c<=400000000000000\/c<=600)/\Hid (Below W0.heap.size W0 wr))
 case atStart=>exact⟨0,c,by omega,by omega,by go_num,by go_num,Z' (by simp[Mp.out]),.inl J6,HB⟩
 clear NU J6 Mp HB Y9 m3 Wt;obtain⟨jm,cm,A',rfl,rfl,rfl,HC,NU,HB⟩:=hrel;replace NU:cm<=400000000000000:=by omega
 by_cases ZX:jm<u.mn
 ·have XZ:(jm:Int)<u.mn:=by omega
  have Xj:=Z7 Zp HB.out;have HS:=Z' (HX.out.below Xj.out).methods;obtain⟨bq,ofq,m,Ym,Zu,hs,q⟩:=HS.out.getC jm ZX;have q0:=q 0 (by omega);have q1:=q 1 (by omega);have q2:=q 2 (by omega);have q3:=q 3 (by omega);have q4:=q 4 (by omega);have q5:=q 5 (by omega);have q6:=q 6 (by omega);have q7:=q 7 (by omega);rw[Nat.add_zero]at q0;simp only[UM.cells,List.getElem?_cons_zero,List.getElem?_cons_succ]at q0 q1 q2 q3 q4 q5 q6 q7;have YW:=Z' (ri p' hs);have Pq:=Z' (List.mem_of_getElem? hs);have Zy:=Z' (M2.out.mt m Pq.out);have Yf:=Zy.out.cn;have Ba:=Zy.out.tn;have hnm1:=Zy.out.nm;have hds1:=Zy.out.ds;obtain⟨d,hd⟩:∃d,d=(m.nm.length+m.ds.length)/50:=⟨_,rfl⟩;have zW:d<=5629499534050:=by omega
  have hq:Int.tdiv ((m.nm.length:Int)+m.ds.length) 50=(d:Int):=by rw[hd,Int.tdiv_eq_ediv_of_nonneg (by omega)];omega
  have CM:(m.nm.length+m.ds.length)/50=d:=hd.symm;have HD:=Z' hd;clear hs q ZX HS hd
  go_upto_region 12 with fail
  have ZY:=yV wr (.cells #[.bool m.st,.string ⟨m.nm.toArray⟩,.string ⟨m.ds.toArray⟩,.int .i64 m.sk,.int .i64 m.lo,.slice m.ca m.cn m.cc,.slice m.ta m.tn m.tc,.slice m.ma m.mn m.mc] yT);have Yx:=Z7 HB ZY;have Ur:=Z9 ((wr.alloc (.cells #[.bool m.st,.string ⟨m.nm.toArray⟩,.string ⟨m.ds.toArray⟩,.int .i64 m.sk,.int .i64 m.lo,.slice m.ca m.cn m.cc,.slice m.ta m.tn m.tc,.slice m.ma m.mn m.mc] yT)).heap[wr.heap.size]? =some (.cells m.cells.toArray yT (0,0))) (heap_alloc_last wr _);have S0:=Z' ((HX.out.below (Xj.out.trans (ZY.mono Xj.out.size))).each m Pq.out);clear ZY HB Xj q0 q1 q2 q3 q4 q5 q6 q7 Ym Zu;generalize wr.alloc _=w6 at*;generalize wr.heap.size=gm at*;have p1:=y8 Ur.out 1 rfl;have p2:=y8 Ur.out 2 rfl;have p5:=y8 Ur.out 5 rfl;have p6:=y8 Ur.out 6 rfl;dsimp only[UM.cells]at p1 p2 p5 p6;by_cases h4:600<cm+1+m.cn+m.tn+d
  ·have e4:decide (600-(cm:Int) -1-m.cn-m.tn-d<0)=true:=by simp;omega
   go_wp2_with fail
   go_ret;exact vQ.no rfl (Zp.out.trans (Yx.out.mono Zp.out.size))
  have e4:decide (600-(cm:Int) -1-m.cn-m.tn-d<0)=false:=by simp;omega
  have HR:=Z' S0.out.code.1;have U5:=Z' S0.out.traps.1;have VE:=Z' S0.out.maps.1;have Qk:m.cn<=600:=by omega
  have ht6:m.tn<=600:=by omega
  obtain⟨c1,Y5⟩:=Z8 (cm+1+m.cn+m.tn+d);have hc16:c1<=600:=by omega
  have UC:=Z' Y5
  go_wp2_with fail
  go_loopg [3,86] m.cn (fun gn left i wx=>∃(k c:Nat),k<=m.cn/\gn=m.cn-k/\left= .int .i64 (600-(c:Int))/\i= .int .i64 k/\Hid (c=c1+((m.code.take k).map qT).sum)/\c<=600+k*5700000000000/\Hid (Below w6.heap.size w6 wx))
  case atStart=>exact⟨0,c1,by omega,by omega,(by rw[Y5];go_num),by go_num,Z' (by simp),by omega,Z' Z6⟩
  clear p1 p2 p5 p6 hq CM e4 Y5;obtain⟨k,c,hk,rfl,rfl,rfl,Yh,VV,Xi⟩:=hrel;by_cases VM:k<m.cn
  ·have Q3:(k:Int)<m.cn:=by omega
   have HS:=Z' (S0.out.below Xi.out).code;obtain⟨bq,ofq,x,Ym,Zu,hs,q⟩:=HS.out.getC k VM;have q0:=q 0 (by omega);have q1:=q 1 (by omega);have q2:=q 2 (by omega);have q3:=q 3 (by omega);have q4:=q 4 (by omega);have q5:=q 5 (by omega);have q6:=q 6 (by omega);rw[Nat.add_zero]at q0;simp only[IN.cells,List.getElem?_cons_zero,List.getElem?_cons_succ]at q0 q1 q2 q3 q4 q5 q6;have Yn:=Z' (ri qT hs);have Zh:=Z' (Zy.out.ins x (List.mem_of_getElem? hs));have x1:=Zh.out.cl;have x2:=Zh.out.nm;have x3:=Zh.out.ds;have x4:=Zh.out.tx;obtain⟨y,hy⟩:∃y,y=(x.cl.length+x.nm.length+x.ds.length+x.tx.length)/100:=⟨_,rfl⟩;have HY:=Z9 (qT x=y) hy.symm;have B5:y<=5629499534050:=by omega
   have hz:Int.tdiv ((x.cl.length:Int)+x.nm.length+x.ds.length+x.tx.length) 100=(y:Int):=by rw[hy,Int.tdiv_eq_ediv_of_nonneg (by omega)];omega
   have Ca:(x.cl.length+x.nm.length+x.ds.length+x.tx.length)/100=y:=hy.symm;clear hs q VM HS hy
   go_wp2_with fail
   go_roundg (m.cn-(k+1))
   case measure=>omega
   exact⟨k+1,c+y,by omega,rfl,by go_num,by go_num,Z' (by rw[Yn.out,HY.out,Yh.out];omega),by omega,Z' (Xi.out.alloc Xi.out.size _)⟩
  have Si:k=m.cn:=by omega
  have ZV:m.code.take k=m.code:=List.take_of_length_le (by rw[HR.out];omega);have E6:=Z' (show c=c1+(m.code.map qT).sum by rw[Yh.out,ZV]);have BX:¬((k:Int)<m.cn):=by omega
  have hcx:c<=4000000000000000:=by omega
  clear Si ZV Yh;have UV:=Z' (yW Ur.out Xi.out);have p6:=y8 UV.out 6 rfl;dsimp only[UM.cells]at p6
  go_wp2_with fail
  go_loopg [3,112] m.tn (fun gn left i wx=>∃(kt ct:Nat),kt<=m.tn/\gn=m.tn-kt/\left= .int .i64 (600-(ct:Int))/\i= .int .i64 kt/\Hid (ct=c+((m.traps.take kt).map pU).sum)/\ct<=4000000000000000+kt*1500000000000/\Hid (Below w6.heap.size w6 wx))
  case atStart=>exact⟨0,c,by omega,by omega,by go_num,by go_num,Z' (by simp),by omega,Xi⟩
  clear p6 UV VV;obtain⟨kt,ct,Zt,rfl,rfl,rfl,ML,Ja,Jw⟩:=hrel;by_cases hlt2:kt<m.tn
  ·have Q3:(kt:Int)<m.tn:=by omega
   have HS:=Z' (S0.out.below Jw.out).traps;obtain⟨bq,ofq,x,Ym,Zu,hs,q⟩:=HS.out.getC kt hlt2;have q0:=q 0 (by omega);have q1:=q 1 (by omega);have q2:=q 2 (by omega);have q3:=q 3 (by omega);rw[Nat.add_zero]at q0;simp only[UT.cells,List.getElem?_cons_zero,List.getElem?_cons_succ]at q0 q1 q2 q3;have Yn:=Z' (ri pU hs);have x1:=Zy.out.tr x (List.mem_of_getElem? hs);obtain⟨y,hy⟩:=Z8 (x.cl.length/100);have HY:=Z9 (pU x=y) hy.symm;have B5:y<=1407374883513:=by omega
   have hz:Int.tdiv (x.cl.length:Int) 100=(y:Int):=by rw[hy,Int.tdiv_eq_ediv_of_nonneg (by omega)];omega
   have Ca:x.cl.length/100=y:=hy.symm;clear hs q hlt2 HS hy
   go_wp2_with fail
   go_roundg (m.tn-(kt+1))
   case measure=>omega
   exact⟨kt+1,ct+y,by omega,rfl,by go_num,by go_num,Z' (by rw[Yn.out,HY.out,ML.out];omega),by omega,Z' (Jw.out.alloc Jw.out.size _)⟩
  have Si:kt=m.tn:=by omega
  have ZV:m.traps.take kt=m.traps:=List.take_of_length_le (by rw[U5.out];omega);have z':=Z' (show ct=c1+(m.code.map qT).sum+(m.traps.map pU).sum by rw[ML.out,ZV,E6.out]);have hnk2:¬((kt:Int)<m.tn):=by omega
  have K5:ct<=5000000000000000:=by omega
  clear Si ZV ML;have UV:=Z' (yW Ur.out Jw.out);have p7:=y8 UV.out 7 rfl;dsimp only[UM.cells]at p7;have LM:=Zy.out.mn
  go_wp2_with fail
  go_loopg [3,126] m.mn (fun gn left i wx=>∃(kp cp:Nat),kp<=m.mn/\gn=m.mn-kp/\left= .int .i64 (600-(cp:Int))/\i= .int .i64 kp/\Hid (cp=ct+((m.maps.take kp).map pY).sum)/\cp<=5000000000000000/\Hid (Below w6.heap.size w6 wx))
  case atStart=>exact⟨0,ct,by omega,by omega,by go_num,by go_num,Z' (by simp),K5,Jw⟩
  clear p7 UV Ja K5;obtain⟨kp,cp,hkp,rfl,rfl,rfl,Rr,Lt,J8⟩:=hrel;by_cases Qg:kp<m.mn
  ·have Q3:(kp:Int)<m.mn:=by omega
   have HS:=Z' (S0.out.below J8.out).maps;obtain⟨bq,ofq,p,Ym,Zu,hs,q⟩:=HS.out.getC kp Qg;have q0:=q 0 (by omega);have q1:=q 1 (by omega);have q2:=q 2 (by omega);rw[Nat.add_zero]at q0;simp only[UP.cells,List.getElem?_cons_zero,List.getElem?_cons_succ]at q0 q1 q2;have Yn:=Z' (ri pY hs);have Ux:=Z' (List.mem_of_getElem? hs);have RH:=Z' (Zy.out.mp p Ux.out);have x1:=RH.out.ln;have x2:=RH.out.sn;clear hs q Qg HS
   go_upto_region 28 with fail
   have ZY:=yV wr (.cells #[.int .i64 p.pl,.slice p.la p.ln p.lc,.slice p.sa p.sn p.sc] 88);have Uy:=Z7 J8 ZY;have RY:=Z9 ((wr.alloc (.cells #[.int .i64 p.pl,.slice p.la p.ln p.lc,.slice p.sa p.sn p.sc] 88)).heap[wr.heap.size]? =some (.cells p.cells.toArray 88 (0,0))) (heap_alloc_last wr _);clear ZY J8 q0 q1 q2 Ym Zu;generalize wr.alloc _=w7 at*;generalize wr.heap.size=gp at*;have p1:=y8 RY.out 1 rfl;have p2:=y8 RY.out 2 rfl;dsimp only[UP.cells]at p1 p2;by_cases h5:600<cp+1+p.ln+p.sn
   ·have e5:decide (600-(cp:Int) -1-p.ln-p.sn<0)=true:=by simp;omega
    go_wp2_with fail
    go_ret;exact vQ.no rfl (Zp.out.trans ((Yx.out.trans (Uy.out.mono Yx.out.size)).mono Zp.out.size))
   have e5:decide (600-(cp:Int) -1-p.ln-p.sn<0)=false:=by simp;omega
   have T3:p.ln<=600:=by omega
   have XR:p.sn<=600:=by omega
   go_upto_region 31 with fail
   clear e5 p1 p2;have Nh:=Z' ((S0.out.below Uy.out).each p Ux.out)
   go_cut [148,149,150] (fun E7 EK Fy wx=>∃(oa:Option Addr) (oc:Nat),E7= .slice oa (p.ln+p.sn) oc/\EK= .int .i64 ((p.ln+p.sn:Nat):Int)/\Fy= .int .i64 0/\Hid (Below w7.heap.size w7 wx)/\Hid (Sl xX wx oa (p.ln+p.sn) (p.loc++p.stk)))
   case first=>
    have k1:=y8 RY.out 1 rfl;have k2:=y8 RY.out 2 rfl;dsimp only[UP.cells]at k1 k2;have l1:=fun w' (h:Below w7.heap.size w7 w')=>yF h k1
    have l2:=fun w' (h:Below w7.heap.size w7 w')=>yF h k2
    clear k1 k2;have Z3:Below w7.heap.size w7 w7.drew:=Z6.drew
    refine ye (Below w7.heap.size w7) (.of [(1,true),(2,true),(4,true),(5,true),(8,true),(0,false),(3,false),(6,false),(7,true)] (.stir [])) (by kernel_rfl) (by kernel_rfl) (fun c a d v w h=>by cases d<;>exact h) ?_
    generalize w7.drew=W1 at*
    iterate 5
     refine yY fun K hK=>tkF ?_
     go_simp
     try go_bits
     refine hK _ _ ?_;clear hK K
    refine yY fun K hK=>alF ?_
    go_step;refine⟨Z3.trans ((yV W1 _).mono Z3.size),hK _ _ ?_⟩;clear hK K;have Xk:=Z' (World.ownsRow_lit (base:=w7.heap.size) (e:=9) (size:=1) W1 #[] 0 Z3.size (by decide) rfl);replace Z3:=Z3.trans ((yV W1 (.cells #[] 9)).mono Z3.size);generalize W1.alloc _=W2 at*;generalize W1.heap.size=ge at*;clear W1;refine yY fun K hK=>alF ?_
    change Oper.wp _ _ _ _ _ _;have R4:=Z' ((Nh.out.loc.below Z3).src (fun _=>rfl) underlying86 p.lc);refine fL uN (ops:= #[]) rfl _ _ _ rfl w7.heap.size _ 0 _ rfl Xk.out _ p.ln (p.loc.map xX) rfl R4.out (by omega) (by unfold maxLen;omega) Z3.size ?_;intro v4 W4 ZD _ Y1;have Vw:=Z' ZD;clear R4;replace Z3:=Z3.trans Y1;clear ZD Y1 Xk;go_simp
    first|refine hK _ _ ?_|refine⟨Z3,hK _ _ ?_⟩
    clear hK K;refine yY fun K hK=>alF ?_
    change Oper.wp _ _ _ _ _ _;have R4:=Z' ((Nh.out.stk.below Z3).src (fun _=>rfl) underlying86 p.sc);refine fL uN (ops:= #[]) rfl _ _ _ rfl w7.heap.size _ (0+p.ln) _ rfl Vw.out _ p.sn (p.stk.map xX) rfl R4.out (by omega) (by unfold maxLen;omega) Z3.size ?_;intro v5 W5 UJ _ Yi;have U7:=Z' (show W5.ownsRow w7.heap.size 9 1 v5 (p.ln+p.sn) ((p.loc++p.stk).map xX) by rw[Nat.zero_add]at UJ;rw[List.map_append];exact UJ);clear R4;obtain⟨a5,c5,rfl,X',-⟩:=Sl.ofOwn U7.out;have QX:=Z' X';replace Z3:=Z3.trans Yi;clear UJ Yi Vw U7 X';go_simp
    first|refine hK _ _ ?_|refine⟨Z3,hK _ _ ?_⟩
    clear hK K
    iterate 1
     refine yY fun K hK=>tkF ?_
     go_simp
     try go_bits
     refine hK _ _ ?_;clear hK K
    refine yA (fun y=>y=W5) (fun y hy=>by obtain rfl:y=W5:=hy;exact Z3) rfl ?_;refine yE (fun yy hy=> ?_);obtain rfl:W5=yy:=Eq.symm hy
    go_wp2_with fail
    go_meet;exact⟨_,_,rfl,rfl,rfl,Z' Z3,QX⟩
   obtain⟨oa,oc,rfl,rfl,rfl,U8,SD⟩:=hcut;obtain⟨Ea,MP⟩:∃c,c=cp+1+p.ln+p.sn:=⟨_,rfl⟩;have hcq6:Ea<=600:=by omega
   have MW:=Z' MP;have RC:=Z' (show(p.loc++p.stk).length=p.ln+p.sn by rw[List.length_append,Nh.out.loc.1,Nh.out.stk.1])
   go_wp2_with fail
   go_loopg [3,150] (p.ln+p.sn) (fun gn left i wx=>∃(kq cq:Nat),kq<=p.ln+p.sn/\gn=p.ln+p.sn-kq/\left= .int .i64 (600-(cq:Int))/\i= .int .i64 kq/\Hid (cq=Ea+(((p.loc++p.stk).take kq).map nF).sum)/\cq<=600+kq*1407374883514/\Hid (Below wc.heap.size wc wx))
   case atStart=>exact⟨0,Ea,by omega,by omega,(by rw[MP];go_num),by go_num,Z' (by simp),by omega,Z' Z6⟩
   clear MP;obtain⟨kq,cq,hkq,rfl,rfl,rfl,R4,Pe,S3⟩:=hrel;by_cases hlq:kq<p.ln+p.sn
   ·have hk1q:(kq:Int)<(p.ln:Int)+p.sn:=by omega
    have hk2q:(kq:Int)<((p.ln+p.sn:Nat):Int):=by omega
    have Bz:=Z' (SD.out.below S3.out);obtain⟨bq,ofq,x,Ym,Zu,hs,q0⟩:=Bz.out.getE kq hlq;dsimp only[xX]at q0;have AR:=Z' (ri nF hs)
    have x9:x.length<=140737488351232:=by
     rcases List.mem_append.1 (List.mem_of_getElem? hs)with h|h
     ·exact RH.out.lt x h
     exact RH.out.st x h
    obtain⟨y,hy⟩:=Z8 (x.length/100);have HY:=Z9 (nF x=y) hy.symm;have B5:y<=1407374883513:=by omega
    have hz:Int.tdiv (x.length:Int) 100=(y:Int):=by rw[hy,Int.tdiv_eq_ediv_of_nonneg (by omega)];omega
    have Ca:x.length/100=y:=hy.symm;clear hs hlq Bz hy
    go_wp2_with fail
    go_roundg (p.ln+p.sn-(kq+1))
    case measure=>omega
    exact⟨kq+1,cq+y,by omega,rfl,by go_num,by go_num,Z' (by rw[AR.out,HY.out,R4.out];omega),by omega,S3⟩
   have Si:kq=p.ln+p.sn:=by omega
   have ZV:(p.loc++p.stk).take kq=p.loc++p.stk:=List.take_of_length_le (by rw[RC.out];omega)
   have zu:=Z' (show cq=cp+pY p by
    rw[R4.out,ZV,MW.out];unfold pY;omega)
   have hn1:¬((kq:Int)<(p.ln:Int)+p.sn):=by omega
   have hn2:¬((kq:Int)<((p.ln+p.sn:Nat):Int)):=by omega
   have ES:cq<=5000000000000000:=by omega
   clear Si ZV R4
   go_wp2_with fail
   go_roundg (m.mn-(kp+1))
   case measure=>omega
   exact⟨kp+1,cq,by omega,rfl,rfl,by go_num,Z' (by rw[Yn.out,zu.out,Rr.out];omega),ES,Z' (Uy.out.trans ((U8.out.trans (S3.out.mono U8.out.size)).mono Uy.out.size))⟩
  have Si:kp=m.mn:=by omega
  have ZV:m.maps.take kp=m.maps:=List.take_of_length_le (by rw[VE.out];omega)
  have zp:=Z' (show cp=cm+p' m by
   rw[Rr.out,ZV,z'.out,UC.out,HD.out];unfold p';omega)
  have hnk3:¬((kp:Int)<m.mn):=by omega
  clear Si ZV Rr;by_cases h8:cp<=600
  ·have e8:decide (600-(cp:Int)<0)=false:=by simp;omega
   have e8b:decide ((600:Int)<cp)=false:=by simp;omega
   go_wp2_with fail
   go_roundg (u.mn-(jm+1))
   case measure=>omega
   exact⟨jm+1,cp,by omega,rfl,rfl,by go_num,Z' (by rw[YW.out,zp.out,HC.out];omega),.inr h8,Z7 Yx J8.out⟩
  have e8:decide (600-(cp:Int)<0)=true:=by simp;omega
  have e8b:decide ((600:Int)<cp)=true:=by simp;omega
  go_wp2_with fail
  go_ret;exact vQ.no rfl (Zp.out.trans ((Yx.out.trans (J8.out.mono Yx.out.size)).mono Zp.out.size))
 have Td:jm=u.mn:=by omega
 have ZV:u.methods.take jm=u.methods:=List.take_of_length_le (by rw[Fg.out];omega);have Mp:=Z' (show cm=kC u by rw[HC.out,ZV];rfl);have Wt:¬((jm:Int)<u.mn):=by omega
 clear Td ZV HC;by_cases h9:cm<=600
 ·have e9:decide ((cm:Int)<=600)=true:=by simp;omega
  go_wp2_with fail
  go_ret;exact vQ.yes rfl (Zp.out.trans (HB.out.mono Zp.out.size)) (by rw[HP.out,<-Mp.out];exact⟨by have:=RD.out.1;omega,by have:=RD.out.2.1;omega,by have:=RD.out.2.2;omega,h9⟩)
 have e9:decide ((cm:Int)<=600)=false:=by simp;omega
 go_wp2_with fail
 go_ret;exact vQ.no rfl (Zp.out.trans (HB.out.mono Zp.out.size))
theorem E0a{c:List UInt8}(h:classB c=true):c.length<=64:=by
 unfold classB at h;simp only[Bool.and_eq_true,decide_eq_true_eq]at h;exact h.1
theorem hY{K:List KV}(hx:∀i:Int,(kAt K i).s.length<=65536){s:KS}(ht:uH s)(h:xa K s=true):(yD K s).length<=65536:=by
 obtain⟨tag,sa⟩:=s;unfold uH at ht;dsimp only at ht
 rcases ht with rfl|rfl|rfl|rfl|rfl
 ·rw[(vE K ⟨0,sa⟩ (by simp)).1];show(wG 0).length<=65536;decide
 ·rw[(vE K ⟨1,sa⟩ (by simp)).1];show(wG 1).length<=65536;decide
 ·rw[(vE K ⟨4,sa⟩ (by simp)).1];show(wG 4).length<=65536;decide
 ·rw[(vE K ⟨5,sa⟩ (by simp)).1];show(wG 5).length<=65536;decide
 obtain⟨v1,v2⟩:=rc K sa;rw[v2,qA]at h;rw[v1];split
 ·exact uj hx _
 next ha=>
 have hc:classB (yQ K sa).1=true:=by
  simp only[Bool.or_eq_true,Bool.true_and]at h
  rcases h with h|h
  ·exact h
  exact absurd h ha
 have:=E0a hc;unfold uT;simp;omega
theorem nH(p:Int):∀(L:List RW) (i:Nat) (acc:Option Nat) (k:Nat),ixF p L i acc=some k->acc=some k\/k<i+L.length
 |[],i,acc,k,h=> .inl h
 |r::L,i,acc,k,h=>by
  rw[ixF]at h
  rcases nH p L (i+1) _ k h with h1|h1
  ·split at h1
   ·cases h1
    exact .inr (by simp)
   exact .inl h1
  exact .inr (by simp;omega)
theorem gF(L:List RW)(p:Int):(wF L p).getD 0<=L.length:=by
 cases h:wF L p with
 |none=>exact Nat.zero_le _
 |some k=>
 rcases nH p L 0 none k h with h1|h1
 ·cases h1
 show k<=_;omega
theorem D3s{n:Nat}(h:n<=1048576):xZ (n:Int):=xp (by omega)
theorem D8h{r:RW}(Zx:r.op<256):vd (yL r):=⟨Zx,xp (by show _/\_;simp[yL]),xp (by show _/\_;simp[yL]),by simp[yL],by simp[yL],by simp[yL],by simp[yL]⟩
theorem gE{K:List KV}(hx:∀i:Int,(kAt K i).s.length<=65536)(hn:∀i:Int,xZ (kAt K i).n){x:IN}(h:vd x)(i:Nat):vd (xG K x i):=by
 unfold xG;split
 ·exact⟨h.op,hn _,h.m,h.cl,h.nm,by simp,h.tx⟩
 split
 ·exact⟨h.op,hn _,h.m,h.cl,h.nm,by simp,h.tx⟩
 split
 ·exact⟨h.op,h.n,h.m,h.cl,h.nm,by simp,ua hx _⟩
 exact h
theorem fT{K:List KV}(hx:∀i:Int,(kAt K i).s.length<=65536){x:IN}(h:vd x)(i t:Int):vd (vi K x i t):=by
 obtain⟨m1,m2,m3⟩:=pN hx i t;exact⟨h.op,h.n,h.m,m1,m2,m3,h.tx⟩
theorem D9r{K:List KV}(hx:∀i:Int,(kAt K i).s.length<=65536)(hn:∀i:Int,xZ (kAt K i).n){L:List RW}(hl:L.length<=1048576){r:RW}(Zx:r.op<256)(ha:xZ r.a)(hb:xZ r.b):vd (xT K L r):=by
 have h:=D8h Zx;unfold xT;split
 ·exact⟨h.op,D3s (Nat.le_trans (gF L r.a) hl),h.m,h.cl,h.nm,h.ds,h.tx⟩
 split
 ·exact⟨h.op,ha,hb,h.cl,h.nm,h.ds,h.tx⟩
 split
 ·exact gE hx hn h _
 split
 ·split
  ·exact gE hx hn h _
  split
  ·exact fT hx h _ _
  split
  ·exact fT hx h _ _
  exact⟨h.op,h.n,h.m,uj hx _,h.nm,h.ds,h.tx⟩
 exact⟨h.op,ha,h.m,h.cl,h.nm,h.ds,h.tx⟩
theorem jT{bs:List UInt8}{L:List RW}(h:xW bs=(0,L)):L.length<=4096/\∀r∈L,r.op<256/\xZ r.a/\xZ r.b:=by
 have h1:=cw bs;have h2:=(sB h).2.2.2;rw[h]at h1;refine⟨by show L.length<=4096;have h3:L.length<=bs.length:=h1;omega,fun r hr=> ?_⟩;obtain⟨k,hk⟩:=List.getElem?_of_mem hr;have hp:=((sB h).1 k r hk).1;have ST:=fF (L.take k);have X7:=(Z4 hk).1;obtain⟨q,rfl⟩:=jB bs r (by rw[h];exact hr)
 have hq:q<=1048576:=by
  have h5:(vZ bs q).pos=(q:Int):=rfl;rw[h5]at hp
  have h6:(ym (L.take k)).length<=(ym L).length:=by
   conv=>rhs;rw[<-List.take_append_drop k L,qE]
   rw[List.length_append];omega
  rw[(sB h).2.2.1]at h6;omega
 have hw:=mu bs q hq;refine⟨hw.2.2,hw.2.1,?_⟩;show xZ (yt bs q (yX (yK bs q)));unfold yt;split
 ·have:=q9 (yv bs q (yX (yK bs q)));exact xp (by omega)
 exact xp (by omega)
theorem i'{K:List KV}{p:KP}(h:xc K p=true):p.loc.length<=64/\p.stk.length<=64/\(∀s∈p.loc,uH s)/\(∀s∈p.stk,uH s):=by
 unfold xc vx at h;simp only[Bool.and_eq_true,decide_eq_true_iff,List.all_eq_true]at h;obtain⟨⟨_,h2,h3⟩,h4,h5⟩:=h;exact⟨by omega,by omega,fun s hs=>nW (h3 s hs),fun s hs=>nW (h5 s hs)⟩
theorem D7q{K:List KV}(hx:∀i:Int,(kAt K i).s.length<=65536)(hn:∀i:Int,xZ (kAt K i).n){k:KM}(XC:xF K k=true)(hc:vL K k=true){m:UM}(hm:m.p=vC K k):m.Fit:=by
 unfold vL at hc;simp only[Bool.and_eq_true,decide_eq_true_eq]at hc;obtain⟨_,h0,hins,htr,LM⟩:=hc;obtain⟨L,hL⟩:∃L,L=(xW k.code).2:=⟨_,rfl⟩;have hd:xW k.code=(0,L):=Prod.ext h0 hL.symm;obtain⟨b1,b2⟩:=jT hd;unfold xF at XC;simp only[Bool.and_eq_true,List.all_eq_true]at XC;obtain⟨⟨⟨⟨⟨_,_⟩,q3⟩,q4⟩,q5⟩,_⟩:=XC;unfold ur at q3;have q3':=of_decide_eq_true q3;have e1:m.nm=yN K k.nm:=congrArg UM.nm hm;have e2:m.ds=yN K k.ds:=congrArg UM.ds hm;have e3:m.code=(xW k.code).2.map (xT K (xW k.code).2):=congrArg UM.code hm;have e4:m.traps=k.traps.map (vU K (xW k.code).2 k.cn):=congrArg UM.traps hm;have e5:m.maps.map UP.p=k.maps.map (uM K (xW k.code).2 k.cn):=congrArg UM.maps hm;rw[hd]at e3 e4 e5;rw[<-hL]at LM;dsimp only at e3 e4 e5;have e6:=congrArg List.length e5;rw[List.length_map,List.length_map]at e6;refine⟨by rw[e1];exact ua hx _,by rw[e2];exact ua hx _,by rw[e3,List.length_map];exact b1,fun x D3=> ?_,by rw[e4,List.length_map];omega,fun t ht=> ?_,by omega,fun p hp=> ?_⟩
 ·rw[e3]at D3;obtain⟨r,hr,rfl⟩:=List.mem_map.1 D3;obtain⟨r1,r2,r3⟩:=b2 r hr;exact D9r hx hn (by omega) r1 r2 r3
 ·rw[e4]at ht;obtain⟨q,hq,rfl⟩:=List.mem_map.1 ht;unfold vU;dsimp only;split
  ·simp
  exact uj hx _
 have N0:p.p∈m.maps.map UP.p:=List.mem_map_of_mem hp;rw[e5]at N0;obtain⟨q,hq,Hc⟩:=List.mem_map.1 N0;obtain⟨l1,l2,l3,l4⟩:=i' (q5 q hq);have JJ:=List.all_eq_true.1 LM q hq;unfold vj at JJ;simp only[Bool.and_eq_true,List.all_eq_true]at JJ;obtain⟨_,s1,s2⟩:=JJ;have g1:p.loc=q.loc.map (yD K):=(congrArg UP.loc Hc).symm;have g2:p.stk=q.stk.map (yD K):=(congrArg UP.stk Hc).symm;refine⟨by rw[g1,List.length_map];omega,by rw[g2,List.length_map];omega,fun t ht=> ?_,fun t ht=> ?_⟩
 ·rw[g1]at ht;obtain⟨s,hs,rfl⟩:=List.mem_map.1 ht;exact hY hx (l3 s hs) (s1 s hs)
 rw[g2]at ht;obtain⟨s,hs,rfl⟩:=List.mem_map.1 ht;exact hY hx (l4 s hs) (s2 s hs)
theorem D7z{f:KF}{u:UU}(hu:u.p=ue f)(hc:vK f=true)(hx:∀i:Int,(kAt f.pool i).s.length<=65536)(hn:∀i:Int,xZ (kAt f.pool i).n):u.Fit:=by
 have e1:u.nm=(yQ f.pool f.th).1:=congrArg UU.nm hu
 have e2:u.su=if f.su=0 then []else(yQ f.pool f.su).1:=congrArg UU.su hu
 have e3:u.fields=f.fields.map (vt f.pool):=congrArg UU.fields hu;have e4:u.methods.map UM.p=f.methods.map (vC f.pool):=congrArg UU.methods hu;unfold vK at hc;simp only[Bool.and_eq_true,List.all_eq_true]at hc;obtain⟨h0,_,_,_,h4⟩:=hc;unfold xn at h0;simp only[Bool.and_eq_true,List.all_eq_true,decide_eq_true_iff]at h0;have e5:=congrArg List.length e4;rw[List.length_map,List.length_map]at e5;have ZR:=h0.1.1.2;refine⟨by rw[e1];exact uj hx _,?_,by rw[e3,List.length_map];omega,fun d hd=> ?_,by omega,fun m hm=> ?_⟩
 ·rw[e2];split
  ·simp
  exact uj hx _
 ·rw[e3]at hd;obtain⟨k,hk,rfl⟩:=List.mem_map.1 hd;exact⟨ua hx _,ua hx _⟩
 have Vj:m.p∈u.methods.map UM.p:=List.mem_map_of_mem hm;rw[e4]at Vj;obtain⟨k,hk,Si⟩:=List.mem_map.1 Vj;exact D7q hx hn (h0.2 k hk) (h4 k hk) Si.symm
abbrev FlT:=26
theorem E4z{f:KF}(h:∀c∈f.pool,-9223372036854775808<=c.n/\c.n<=9223372036854775807)(i:Int):xZ (kAt f.pool i).n:=by
 unfold kAt;by_cases hl:i.toNat<f.pool.length
 ·have e:f.pool.getD i.toNat kz=f.pool[i.toNat]:=by simp[List.getD,hl]
  rw[e];exact xp (h _ (List.getElem_mem hl))
 rw[List.getD_eq_getElem?_getD,List.getElem?_eq_none (by omega)];exact xp (by decide)
end
end Go.Proofs.YtclpkipaehpkdaaGreatDoor
