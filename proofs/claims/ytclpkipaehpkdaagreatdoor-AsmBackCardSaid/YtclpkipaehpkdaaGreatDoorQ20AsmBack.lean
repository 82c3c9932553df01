/- asm -/
import Derived.Test.YtclpkipaehpkdaaGreatDoorQ19AsmBack
import Derived.Test.YtclpkipaehpkdaaGreatDoorQ15AsmBack
set_option linter.unusedVariables false
set_option linter.unusedSimpArgs false
set_option maxRecDepth 100000
set_option maxHeartbeats 64000000
open Go.Proofs.Tryz
namespace Go.Proofs.YtclpkipaehpkdaaGreatDoor
section
open Go.ChangeShapes Go.WideShapes Go.ChangeAt Go.RowKit Go.Maps
theorem D6c(w:World):wv (w.alloc (.map #[] 0)) w.heap.size [kz]:=by
 refine⟨_,(World.ownsMap_made w prog x7 _).mono (by simp),fun c hc ht z=> ?_⟩
 have:vY [kz] c=none:=by
  unfold vY;simp only[List.findIdx?_cons,List.findIdx?_nil,Option.map_none];rw[if_neg (fun h=>ht (by rw[<-tb.1 h];rfl))]
 rw[this];rfl
def BxF(gx go:Nat)(f:UF)(v:Value)(z:World):Prop:=z.heap[gx]? =some (.cells f.cells.toArray 52 (0,0))/\z.cell? ⟨go,3,none⟩=some v
def BxN(gx go:Nat)(m:UM)(v:Value)(z:World):Prop:=z.heap[gx]? =some (.cells m.cells.toArray yT (0,0))/\z.cell? ⟨go,4,none⟩=some v
def QEl(g:Nat)(e:Int)(w:World):Prop:=w.cell? ⟨g,2,none⟩=some (.int .i64 e)
theorem jn(x:KF):xn x.lp=xn x:=by
 have hm:∀(L:List KV) (m:KM),xF L m.lp=xF L m:=fun L m=>by
  have hp:∀(L:List KV) (p:KP),xc L p.lp=xc L p:=fun L p=>rfl
  unfold xF;show(xK L m.fl m.nm m.ds&&sZ m&&ur m.lp&&m.traps.all (we L)&&(m.maps.map KP.lp).all (xc L)&&tT L m.lp)=_;have h1:ur m.lp=ur m:=by unfold ur KM.lp;simp
  have h2:tT L m.lp=tT L m:=by unfold tT KM.lp;simp
  have h3:(m.maps.map KP.lp).all (xc L)=m.maps.all (xc L):=by
   rw[List.all_map];rfl
  rw[h1,h2,h3]
 unfold xn;show(xP x.pool&&clsOk x.pool x.th&&(decide (x.su=0)||clsOk x.pool x.su)&&decide (x.fields.length<=64/\(x.methods.map KM.lp).length<=64)&&x.fields.all (fun d=>xK x.pool d.fl d.nm d.ds)&&(x.methods.map KM.lp).all (xF x.pool))=_;rw[List.length_map,List.all_map];congr 1;exact congrArg _ (funext fun m=>hm x.pool m)
theorem bU(l:List RW):(xt l).2.length<=4096:=by
 unfold xt;split
 ·simp
 split
 ·simp
 split
 ·simp
 next h=>show(ym l).length<=_;omega
theorem bM{s:LW}{l:List UM}{y:KM}(h:y∈(s.methods l).2):∃s' m,m∈l/\y=(LW.method s' m).2:=by
 induction l generalizing s with
 |nil=>cases h
 |cons x l ih=>
  rw[LW.methods]at h
  rcases List.mem_cons.1 h with h|h
  ·exact⟨s,x,List.mem_cons_self,h⟩
  obtain⟨s',m,hm,he⟩:=ih h;exact⟨s',m,List.mem_cons_of_mem _ hm,he⟩
theorem D2c{s:LW}{l:List UF}{y:KD}(h:y∈(s.fields l).2):∃s' m,m∈l/\y=(LW.field s' m).2:=by
 induction l generalizing s with
 |nil=>cases h
 |cons x l ih=>
  rw[LW.fields]at h
  rcases List.mem_cons.1 h with h|h
  ·exact⟨s,x,List.mem_cons_self,h⟩
  obtain⟨s',m,hm,he⟩:=ih h;exact⟨s',m,List.mem_cons_of_mem _ hm,he⟩
theorem D7u{s:LW}{c:List IN}{l:List UP}{y:KP}(h:y∈(s.maps c l).2):∃s' m,m∈l/\y=(LW.map s' c m).2:=by
 induction l generalizing s with
 |nil=>cases h
 |cons x l ih=>
  rw[LW.maps]at h
  rcases List.mem_cons.1 h with h|h
  ·exact⟨s,x,List.mem_cons_self,h⟩
  obtain⟨s',m,hm,he⟩:=ih h;exact⟨s',m,List.mem_cons_of_mem _ hm,he⟩
theorem gT(b:Bool):yw (xJ b):=by cases b<;>exact⟨by decide,by decide⟩
theorem E3r(u:UU)(hf:u.Fit)(x:KF)(V:World)(hx:x.lp=(xi u).2)(hr:x.Rd V)(he:(xi u).1.e=0):x.Fit:=by
 have hg:=gq u hf;have UD:x.pool=(xi u).1.l:=(show x.pool=x.lp.pool from rfl).trans (congrArg KF.pool hx);have Nx:x.fields=(xi u).2.fields:=(show x.fields=x.lp.fields from rfl).trans (congrArg KF.fields hx);have Nz:x.methods.map KM.lp=(xi u).2.methods:=congrArg KF.methods hx;have hl:x.pool.length<=1024:=by rw[UD];exact hg.sz he
 have h1:=hr.pool.1;have h2:=hr.fields.1;have h3:=hr.methods.1;have Gj:x.fields.length=u.fields.length:=by rw[Nx];unfold xi;dsimp only;rw[jf]
 have UH:x.methods.length=u.methods.length:=by
  have:=congrArg List.length Nz;rw[List.length_map]at this;rw[this];unfold xi;dsimp only;rw[jH]
 have a1:=hf.fields;have a2:=hf.methods;refine⟨by omega,fun i hi=> ?_,by omega,by omega,fun d hd=> ?_,fun m hm=> ?_⟩
 ·rw[uZ x.pool i (by omega)];have:=hg.tx x.pool[i] (by rw[<-UD];exact List.getElem_mem _);exact this
 ·rw[Nx]at hd;have Aq:d∈(LW.fields _ u.fields).2:=hd;obtain⟨s',m,_,e⟩:=D2c Aq;rw[e];exact gT m.st
 have Jn:m.lp∈(xi u).2.methods:=by rw[<-Nz];exact List.mem_map_of_mem hm
 have Gz:m.lp∈(LW.methods _ u.methods).2:=Jn;obtain⟨s',m0,X4,e⟩:=bM Gz;have Jb:=hr.each m hm;have c1:=Jb.code.1;have c2:=Jb.traps.1;have c3:=Jb.maps.1;have RN:=hf.mt m0 X4;have e1:m.fl=xJ m0.st:=congrArg KM.fl e
 have e2:m.code.length<=4096:=by
  have:m.code=(LW.method s' m0).2.code:=(show m.code=m.lp.code from rfl).trans (congrArg KM.code e);rw[this];exact bU _
 have e3:m.traps.length=m0.traps.length:=by
  have:m.traps=(LW.method s' m0).2.traps:=(show m.traps=m.lp.traps from rfl).trans (congrArg KM.traps e);rw[this];exact iq _ _ _
 have LM:m.maps.map KP.lp=(LW.method s' m0).2.maps:=congrArg KM.maps e
 have e4:m.maps.length=m0.maps.length:=by
  have h9:=congrArg List.length LM;rw[List.length_map]at h9;rw[h9];exact gD _ _ _
 have b1:=RN.traps;have b2:=RN.maps;refine⟨by rw[e1];exact gT _,by unfold maxLen;omega,by omega,by omega,fun p hp=> ?_⟩;have h9:p.lp∈(LW.method s' m0).2.maps:=by rw[<-LM];exact List.mem_map_of_mem hp
 have zM:p.lp∈(LW.maps _ m0.code m0.maps).2:=h9;obtain⟨s2,p0,zZ,e5⟩:=D7u zM;have BZ:=Jb.each p hp;have d1:=BZ.loc.1;have d2:=BZ.stk.1;have hq:=RN.mp p0 zZ;have b3:=hq.loc;have b4:=hq.stk
 have e6:p.loc.length=p0.loc.length:=by
  have:p.loc=(LW.map s2 m0.code p0).2.loc:=(show p.loc=p.lp.loc from rfl).trans (congrArg KP.loc e5);rw[this];exact im _ _
 have e7:p.stk.length=p0.stk.length:=by
  have:p.stk=(LW.map s2 m0.code p0).2.stk:=(show p.stk=p.lp.stk from rfl).trans (congrArg KP.stk e5);rw[this];exact im _ _
 exact⟨by omega,by omega⟩
theorem KF.Ow.rd{x:KF}{V:World}{B:Nat}(h:x.Ow V B)(hp:V.ownsRow B x7 5 (.slice x.pa x.pn x.pc) x.pn (x.pool.flatMap KV.cells)):x.Rd V:=by
 obtain⟨a0,d0,q0,r0,_⟩:=Ss.ofOwn KV.cells_length (by decide) hp;obtain⟨a1,d1,q1,r1,_⟩:=Ss.ofOwn KD.cells_length (by decide) h.fields;obtain⟨a2,d2,q2,r2,_⟩:=Ss.ofOwn KM.cells_length (by decide) h.methods
 cases q0
 cases q1
 cases q2
 exact⟨r0,r1,r2,fun m hm=>(h.each m hm).rd⟩
def nG(u:UU)(w:World)(e:Ending)(w':World):Prop:=
 ∃x:KF,e= .returned (.tuple #[.agg x.cells.toArray,.int .i64 (un u)])/\(un u=0->x.lp=(xi u).2/\x.Rd w'/\x.Fit)/\(un u≠0->x=⟨none,0,0,[],0,0,none,0,0,[],none,0,0,[]⟩)/\Below w.heap.size w w'
theorem nf(w:World)(u:UU)(hu:u.Rd w)(hf:u.Fit)(hv:VW w):Calls prog 14 #[.agg u.cells.toArray] w (nG u w):=by
 have VB:0<w.heap.size:=by
  obtain⟨m,hm⟩:=hv
  rcases Nat.eq_zero_or_pos w.heap.size with h1|h1
  ·exfalso;have:w.heap[0]? =none:=Array.getElem?_eq_none (by omega);simp[World.cell?,this]at hm
  exact h1
 have Yi:Below w.heap.size w (((((w.alloc (.cells #[.string ⟨u.nm.toArray⟩,.string ⟨u.su.toArray⟩,.slice u.fa u.fn u.fc,.slice u.ma u.mn u.mc] UnT)).alloc (.cells #[.slice none 0 0,.int .i64 0,.int .i64 0,.slice none 0 0,.slice none 0 0] xq)).alloc (.cells #[.int .i64 0,.int .i64 0,.int .i64 0,.int .i64 0,.string ⟨#[]⟩] x7)).alloc (.map #[] 0)).alloc (.cells #[.slice (some ⟨w.heap.size+1+1,0,none⟩) 1 1,.map (some (w.heap.size+1+1+1)),.int .i64 0] wi)):=(((((Below.refl w.heap.size w).alloc Z5 _).alloc (by simp) _).alloc (by simp;omega) _).alloc (by simp;omega) _).alloc (by simp;omega) _;have s2:((w.alloc (.cells #[.string ⟨u.nm.toArray⟩,.string ⟨u.su.toArray⟩,.slice u.fa u.fn u.fc,.slice u.ma u.mn u.mc] UnT)).alloc (.cells #[.slice none 0 0,.int .i64 0,.int .i64 0,.slice none 0 0,.slice none 0 0] xq)).heap.size=w.heap.size+1+1:=by simp
 have s3:(((w.alloc (.cells #[.string ⟨u.nm.toArray⟩,.string ⟨u.su.toArray⟩,.slice u.fa u.fn u.fc,.slice u.ma u.mn u.mc] UnT)).alloc (.cells #[.slice none 0 0,.int .i64 0,.int .i64 0,.slice none 0 0,.slice none 0 0] xq)).alloc (.cells #[.int .i64 0,.int .i64 0,.int .i64 0,.int .i64 0,.string ⟨#[]⟩] x7)).heap.size=w.heap.size+1+1+1:=by simp
 have s4:((((w.alloc (.cells #[.string ⟨u.nm.toArray⟩,.string ⟨u.su.toArray⟩,.slice u.fa u.fn u.fc,.slice u.ma u.mn u.mc] UnT)).alloc (.cells #[.slice none 0 0,.int .i64 0,.int .i64 0,.slice none 0 0,.slice none 0 0] xq)).alloc (.cells #[.int .i64 0,.int .i64 0,.int .i64 0,.int .i64 0,.string ⟨#[]⟩] x7)).alloc (.map #[] 0)).heap.size=w.heap.size+1+1+1+1:=by simp
 have Ky:(((((w.alloc (.cells #[.string ⟨u.nm.toArray⟩,.string ⟨u.su.toArray⟩,.slice u.fa u.fn u.fc,.slice u.ma u.mn u.mc] UnT)).alloc (.cells #[.slice none 0 0,.int .i64 0,.int .i64 0,.slice none 0 0,.slice none 0 0] xq)).alloc (.cells #[.int .i64 0,.int .i64 0,.int .i64 0,.int .i64 0,.string ⟨#[]⟩] x7)).alloc (.map #[] 0)).alloc (.cells #[.slice (some ⟨w.heap.size+1+1,0,none⟩) 1 1,.map (some (w.heap.size+1+1+1)),.int .i64 0] wi)).heap[w.heap.size+1+1]? =some (.cells #[.int .i64 0,.int .i64 0,.int .i64 0,.int .i64 0,.string ⟨#[]⟩] x7 (0,0)):=by
  rw[Below.heap_alloc _ _ _ (by rw[s4];omega),Below.heap_alloc _ _ _ (by rw[s3];omega)];have h9:=heap_alloc_last ((w.alloc (.cells #[.string ⟨u.nm.toArray⟩,.string ⟨u.su.toArray⟩,.slice u.fa u.fn u.fc,.slice u.ma u.mn u.mc] UnT)).alloc (.cells #[.slice none 0 0,.int .i64 0,.int .i64 0,.slice none 0 0,.slice none 0 0] xq)) (.cells #[.int .i64 0,.int .i64 0,.int .i64 0,.int .i64 0,.string ⟨#[]⟩] x7);rw[s2]at h9;exact h9
 have JS:(((((w.alloc (.cells #[.string ⟨u.nm.toArray⟩,.string ⟨u.su.toArray⟩,.slice u.fa u.fn u.fc,.slice u.ma u.mn u.mc] UnT)).alloc (.cells #[.slice none 0 0,.int .i64 0,.int .i64 0,.slice none 0 0,.slice none 0 0] xq)).alloc (.cells #[.int .i64 0,.int .i64 0,.int .i64 0,.int .i64 0,.string ⟨#[]⟩] x7)).alloc (.map #[] 0)).alloc (.cells #[.slice (some ⟨w.heap.size+1+1,0,none⟩) 1 1,.map (some (w.heap.size+1+1+1)),.int .i64 0] wi)).heap[w.heap.size+1+1+1+1]? =some (.cells #[.slice (some ⟨w.heap.size+1+1,0,none⟩) 1 1,.map (some (w.heap.size+1+1+1)),.int .i64 0] wi (0,0)):=by
  have h9:=heap_alloc_last ((((w.alloc (.cells #[.string ⟨u.nm.toArray⟩,.string ⟨u.su.toArray⟩,.slice u.fa u.fn u.fc,.slice u.ma u.mn u.mc] UnT)).alloc (.cells #[.slice none 0 0,.int .i64 0,.int .i64 0,.slice none 0 0,.slice none 0 0] xq)).alloc (.cells #[.int .i64 0,.int .i64 0,.int .i64 0,.int .i64 0,.string ⟨#[]⟩] x7)).alloc (.map #[] 0)) (.cells #[.slice (some ⟨w.heap.size+1+1,0,none⟩) 1 1,.map (some (w.heap.size+1+1+1)),.int .i64 0] wi);rw[s4]at h9;exact h9
 have DL:wv (((((w.alloc (.cells #[.string ⟨u.nm.toArray⟩,.string ⟨u.su.toArray⟩,.slice u.fa u.fn u.fc,.slice u.ma u.mn u.mc] UnT)).alloc (.cells #[.slice none 0 0,.int .i64 0,.int .i64 0,.slice none 0 0,.slice none 0 0] xq)).alloc (.cells #[.int .i64 0,.int .i64 0,.int .i64 0,.int .i64 0,.string ⟨#[]⟩] x7)).alloc (.map #[] 0)).alloc (.cells #[.slice (some ⟨w.heap.size+1+1,0,none⟩) 1 1,.map (some (w.heap.size+1+1+1)),.int .i64 0] wi)) (w.heap.size+1+1+1) [kz]:=by
  have h9:=D6c (((w.alloc (.cells #[.string ⟨u.nm.toArray⟩,.string ⟨u.su.toArray⟩,.slice u.fa u.fn u.fc,.slice u.ma u.mn u.mc] UnT)).alloc (.cells #[.slice none 0 0,.int .i64 0,.int .i64 0,.slice none 0 0,.slice none 0 0] xq)).alloc (.cells #[.int .i64 0,.int .i64 0,.int .i64 0,.int .i64 0,.string ⟨#[]⟩] x7));rw[s3]at h9;exact h9.below (yV _ _)
 have RZ:=Z9 (FlH w (((((w.alloc (.cells #[.string ⟨u.nm.toArray⟩,.string ⟨u.su.toArray⟩,.slice u.fa u.fn u.fc,.slice u.ma u.mn u.mc] UnT)).alloc (.cells #[.slice none 0 0,.int .i64 0,.int .i64 0,.slice none 0 0,.slice none 0 0] xq)).alloc (.cells #[.int .i64 0,.int .i64 0,.int .i64 0,.int .i64 0,.string ⟨#[]⟩] x7)).alloc (.map #[] 0)).alloc (.cells #[.slice (some ⟨w.heap.size+1+1,0,none⟩) 1 1,.map (some (w.heap.size+1+1+1)),.int .i64 0] wi)) (w.heap.size+1+1+1+1) u ⟨[kz],0⟩) (⟨⟨some ⟨w.heap.size+1+1,0,none⟩,1,w.heap.size+1+1+1,⟨JS,⟨rfl,.inr ⟨_,1,_,rfl,by omega,Ky,Nat.le_refl _,by decide,rfl,rfl⟩⟩,DL,by omega,by omega,VB,hv.below Yi⟩⟩,yR.of Yi,by
  rw[Below.heap_alloc _ _ _ (by rw[s4];omega),Below.heap_alloc _ _ _ (by rw[s3];omega),Below.heap_alloc _ _ _ (by rw[s2];omega),Below.heap_alloc _ _ _ (by simp)];exact heap_alloc_last w _,by
  rw[Below.heap_alloc _ _ _ (by rw[s4];omega),Below.heap_alloc _ _ _ (by rw[s3];omega),Below.heap_alloc _ _ _ (by rw[s2];omega)];have h9:=heap_alloc_last (w.alloc (.cells #[.string ⟨u.nm.toArray⟩,.string ⟨u.su.toArray⟩,.slice u.fa u.fn u.fc,.slice u.ma u.mn u.mc] UnT)) (.cells #[.slice none 0 0,.int .i64 0,.int .i64 0,.slice none 0 0,.slice none 0 0] xq);rw[show(w.alloc (.cells #[.string ⟨u.nm.toArray⟩,.string ⟨u.su.toArray⟩,.slice u.fa u.fn u.fc,.slice u.ma u.mn u.mc] UnT)).heap.size=w.heap.size+1 by simp]at h9;exact h9⟩)
 have HU:=Z' hu;have HF:=Z' hf;have HV:=Z' hv
 have TU:=Z9 (xi u=(let s:=(⟨[kz],0⟩:LW).consts u.methods;let t:=s.cls u.nm false;let p:=if u.su=[]then(t.1,0)else t.1.cls u.su false;let f:=p.1.fields u.fields;let m:=f.1.methods u.methods;(m.1,⟨none,0,0,m.1.l,(t.2:Nat),(p.2:Nat),none,0,0,f.2,none,0,0,m.2⟩))) rfl
 have NL:=Z' (gq u hf)
 have HE:=Z9 (un u=if(xi u).1.e=0 then(if xn (xi u).2 then 0 else 8)else(xi u).1.e) rfl
 clear hu hf hv Yi s2 s3 s4 Ky JS DL;change Calls prog 14 #[.agg #[.string ⟨u.nm.toArray⟩,.string ⟨u.su.toArray⟩,.slice u.fa u.fn u.fc,.slice u.ma u.mn u.mc]] w (nG u w);have Vj:= @run_makeMap prog;go_enter func14,ntmps14
 go_upto_region 2 with fail
 clear Vj;generalize(((((w.alloc (.cells #[.string ⟨u.nm.toArray⟩,.string ⟨u.su.toArray⟩,.slice u.fa u.fn u.fc,.slice u.ma u.mn u.mc] UnT)).alloc (.cells #[.slice none 0 0,.int .i64 0,.int .i64 0,.slice none 0 0,.slice none 0 0] xq)).alloc (.cells #[.int .i64 0,.int .i64 0,.int .i64 0,.int .i64 0,.string ⟨#[]⟩] x7)).alloc (.map #[] 0)).alloc (.cells #[.slice (some ⟨w.heap.size+1+1,0,none⟩) 1 1,.map (some (w.heap.size+1+1+1)),.int .i64 0] wi))=W at*;obtain⟨g,hg⟩:=Z8 (w.heap.size+1+1+1+1);rw[<-hg]at RZ⊢;have Fm:w.heap.size+1<g:=by omega
 clear hg;have Xj:=Z' (fun V s (h:FlH w V g u s)=>(h.hk.below (Below.refl _ w) Z5:Below w.heap.size w V));have Wz:=Z' (cS W w w.heap.size g ⟨[kz],0⟩ u RZ.out.hs HU.out (Xj.out _ _ RZ.out) Z5 HF.out (by simp) RZ.out.hk.size VB);have VQ:=iX ⟨[kz],0⟩ u.methods (fun m hm=>(HF.out.mt m hm).code);have Rx:=HF.out.methods;have Av:=HF.out.fields;rw[show([kz]:List KV).length=1 from rfl]at VQ;generalize(⟨[kz],0⟩:LW).consts u.methods=s1 at*;dsimp only[UU.cells]at Wz;obtain⟨u0,u1,u2,u3⟩:=(show W.cell? ⟨w.heap.size,0,none⟩=some (.string ⟨u.nm.toArray⟩)/\W.cell? ⟨w.heap.size,1,none⟩=some (.string ⟨u.su.toArray⟩)/\W.cell? ⟨w.heap.size,2,none⟩=some (.slice u.fa u.fn u.fc)/\W.cell? ⟨w.heap.size,3,none⟩=some (.slice u.ma u.mn u.mc)from⟨y8 RZ.out.u 0 rfl,y8 RZ.out.u 1 rfl,y8 RZ.out.u 2 rfl,y8 RZ.out.u 3 rfl⟩)
 go_wp2_with fail
 refine Wz.out.mono ?_;rintro e V1 ⟨rfl,hs,hk⟩;have RD:=Z' (RZ.out.call hs hk);clear hs hk RZ Wz u0 u1 u2 u3;have Y4:=Z' (sG V1 w.heap.size g s1 u.nm false RD.out.hs HF.out.nm (by omega) RD.out.hk.size);have Xf:=tE s1 u.nm false;generalize s1.cls u.nm false=c2 at*;obtain⟨s2,th⟩:=c2;dsimp only at Y4 Xf TU;have u0:V1.cell? ⟨w.heap.size,0,none⟩=some (.string ⟨u.nm.toArray⟩):=y8 RD.out.u 0 rfl
 go_wp2_with fail
 refine Y4.out.mono ?_;rintro e V2 ⟨rfl,hs,hk⟩;have GQ:=Z' (RD.out.call hs hk);clear hs hk RD Y4 u0
 go_upto_region 4 with fail
 have ZY:=yV V2 (.cells #[.slice none 0 0,.int .i64 (th:Nat),.int .i64 0,.slice none 0 0,.slice none 0 0] xq)
 have Ri:=Z9 (FlJ w (V2.alloc (.cells #[.slice none 0 0,.int .i64 (th:Nat),.int .i64 0,.slice none 0 0,.slice none 0 0] xq)) g V2.heap.size u ⟨none,0,0,[],(th:Nat),0,none,0,0,[],none,0,0,[]⟩ s2) (⟨GQ.out.below ZY,heap_alloc_last V2 _,⟨World.ownsRow_nil _ _ _ _,World.ownsRow_nil _ _ _ _,fun m hm=>by cases hm⟩⟩)
 have WX:w.heap.size+1<V2.heap.size:=yG GQ.out.z;have Nq:g<V2.heap.size:=GQ.out.hs.lt;clear ZY GQ;generalize V2.alloc _=W3 at*;generalize V2.heap.size=go at*;have u1:W3.cell? ⟨w.heap.size,1,none⟩=some (.string ⟨u.su.toArray⟩):=y8 Ri.out.h.u 1 rfl;obtain⟨bs,Tm⟩:=Z8 (!u.su.isEmpty);have e1:u.su.isEmpty= !bs:=by rw[Tm,Bool.not_not]
 have e0:(u.su !=[])=bs:=by rw[Tm];cases u.su<;>rfl
 have S3:=Z' Tm;clear Tm
 obtain⟨SP,GZ⟩:=Z8 (if u.su=[]then(s2,0)else s2.cls u.su false)
 rw[<-GZ]at TU
 have RE:SP.1.l.length<=s2.l.length+4:=by
  rw[GZ];split
  ·show s2.l.length<=_;omega
  exact tE _ _ _
 have LV:=Z' GZ;clear GZ
 go_upto_if 25 with fail
 go_cut [] (fun wx=>Hid (FlJ w wx g go u ⟨none,0,0,[],(th:Nat),(SP.2:Nat),none,0,0,[],none,0,0,[]⟩ SP.1))
 case first=>
  cases bs
  ·have J9:u.su=[]:=by
    have h:=S3.out
    rcases hq:u.su with _|⟨a,l⟩
    ·rfl
    rw[hq]at h;cases h
   have HQ:=Z' (show SP=(s2,0) by rw[LV.out,if_pos J9]);clear J9 e0 e1
   go_wp2_with fail
   go_meet;exact Z' (by rw[HQ.out];exact Ri.out)
  have J9:¬u.su=[]:=fun h=>by
   have h1:=S3.out;rw[h]at h1
   cases h1
  have CP:=show SP=s2.cls u.su false by rw[LV.out,if_neg J9]
  have HC:=Z' (sG W3 w.heap.size g s2 u.su false Ri.out.h.hs HF.out.su (by omega) Ri.out.h.hk.size);generalize s2.cls u.su false=c3 at*;obtain⟨s3,su⟩:=c3;dsimp only at HC;have HQ:=Z' CP;clear J9 e0 e1 CP
  go_wp2_with fail
  refine HC.out.mono ?_;rintro e V3 ⟨rfl,hs,hk⟩;have Yv:=Z' (Ri.out.call hs hk);clear hs hk Ri HC;have fo:=xQ Yv.out.o 2;have lo:=yG Yv.out.o;have co:=y8 Yv.out.o 2 rfl;dsimp only[KF.cells]at co
  go_wp2_with fail
  go_meet
  exact Z' (by
   rw[HQ.out];exact Yv.out.h.put (x':=⟨none,0,0,[],(th:Nat),(su:Nat),none,0,0,[],none,0,0,[]⟩) Yv.out.o WX 2 _ rfl ⟨Yv.out.w.fields,Yv.out.w.methods,Yv.out.w.each⟩)
 have Yv:=hcut;clear hcut Ri u1 e0 e1 S3 LV;obtain⟨s3,su⟩:=SP;dsimp only at Yv RE TU;have u2:wc.cell? ⟨w.heap.size,2,none⟩=some (.slice u.fa u.fn u.fc):=y8 Yv.out.h.u 2 rfl;have Pc:=Z' HU.out.fields.1;rw[Pc.out]at Av
 go_wp2_with fail
 go_loopg [34] u.fn (fun gn i wr=>∃(j:Nat) (x:KF),j<=u.fn/\gn=u.fn-j/\i= .int .i64 j/\Hid (x.lp=⟨none,0,0,[],(th:Nat),(su:Nat),none,0,0,(s3.fields (u.fields.take j)).2,none,0,0,[]⟩)/\Hid (FlJ w wr g go u x (s3.fields (u.fields.take j)).1))
 case atStart=>exact⟨0,_,by omega,by omega,by go_num,Z' rfl,Yv⟩
 clear Yv u2;obtain⟨j,x,hj,rfl,rfl,HX,HJ⟩:=hrel;by_cases ZX:j<u.fn
 ·have Ds:=Z' (HU.out.fields.below (Xj.out _ _ HJ.out.h));obtain⟨bq,off,f,Ym,Zu,GU,q⟩:=Ds.out.getC j ZX;have q0:=q 0 (by omega);have q1:=q 1 (by omega);have q2:=q 2 (by omega);rw[Nat.add_zero]at q0;simp only[UF.cells,List.getElem?_cons_zero,List.getElem?_cons_succ]at q0 q1 q2;have XZ:(j:Int)<u.fn:=by omega
  have WL:=Z' (HF.out.fd f (List.mem_of_getElem? GU))
  have Ze:=Z' (show s3.fields (u.fields.take (j+1))=((((s3.fields (u.fields.take j)).1).field f).1,(s3.fields (u.fields.take j)).2++[(((s3.fields (u.fields.take j)).1).field f).2]) by
   have YP:=(Z4 GU).1;rw[List.take_succ_eq_append_getElem YP,(Z4 GU).2,cM])
  have Wp:=jb s3 (u.fields.take j);rw[List.length_take,Pc.out,Nat.min_eq_left hj]at Wp
  have Qn:x.fn=j:=by
   have h1:=congrArg (fun y=>y.fields.length) HX.out;have h2:=HJ.out.w.fn';have h3:=jf s3 (u.fields.take j);rw[List.length_take,Pc.out,Nat.min_eq_left hj]at h3;dsimp only[KF.lp]at h1;omega
  generalize s3.fields (u.fields.take j)=SJ at*;obtain⟨sj,lj⟩:=SJ;dsimp only at HX HJ Ze Wp;have N3:=Z' Qn;clear GU q Qn Ds
  go_upto_region 9 with fail
  have ZY:=yV wr (.cells #[.bool f.st,.string ⟨f.nm.toArray⟩,.string ⟨f.ds.toArray⟩] 52);have Y3:=Z9 ((wr.alloc (.cells #[.bool f.st,.string ⟨f.nm.toArray⟩,.string ⟨f.ds.toArray⟩] 52)).heap[wr.heap.size]? =some (.cells f.cells.toArray 52 (0,0))) (heap_alloc_last wr _);have Yv:=Z' (HJ.out.below ZY);clear ZY q0 q1 q2 Ym Zu HJ;generalize wr.alloc _=W at*;generalize wr.heap.size=gx at*;obtain⟨b1,ZQ⟩:∃b,b=yk f.nm:=⟨_,rfl⟩;obtain⟨b2,ZN⟩:∃b,b=typeB f.ds:=⟨_,rfl⟩;have Y9:=Z' (fun W hv=>sF W f.nm WL.out.1 hv);have Zj:=Z' (fun W hv=>ub W f.ds WL.out.2 hv);obtain⟨RT,WM⟩:=Z8 (sj.field f);rw[<-WM]at Ze;unfold LW.field at WM;dsimp only at WM;rw[<-ZQ]at Y9 WM;rw[<-ZN]at Zj WM;have z8:(sj.need (b1&&b2) 8).l=sj.l:=rfl;have N7:=wq (sj.need (b1&&b2) 8) f.nm;rw[z8]at N7;have Y':=Z' (fun V hs Yc=>uC V w.heap.size g (sj.need (b1&&b2) 8) f.nm hs WL.out.1 (show sj.l.length<=_ by omega) Yc);generalize(sj.need (b1&&b2) 8).text f.nm=n4 at*;obtain⟨s4,i4⟩:=n4;dsimp only at Y' N7 WM;have VF:=Z' (fun V hs Yc=>uC V w.heap.size g s4 f.ds hs WL.out.2 (by omega) Yc);generalize s4.text f.ds=n5 at*;obtain⟨s5,i5⟩:=n5;dsimp only at VF WM;have Uu:=Z' WM;clear WM ZQ ZN
  go_cut [] (fun wx=>Hid (FlJ w wx g go u x (sj.need (b1&&b2) 8))/\Hid (wx.heap[gx]? =some (.cells f.cells.toArray 52 (0,0))))
  case first=>
   have f1:W.cell? ⟨gx,1,none⟩=some (.string ⟨f.nm.toArray⟩):=y8 Y3.out 1 rfl;have SB:=Z' (fun V ok (h:LoS V w.heap.size g sj)=>xk V w.heap.size g sj ok 8 h)
   go_wp2_with fail
   refine(Y9.out W Yv.out.h.hs.vw).mono ?_;rintro e V1 ⟨rfl,ZQ⟩;have WA:=Z' (Yv.out.below ZQ);have M5:=Z' (yW Y3.out ZQ);clear ZQ Yv Y3 f1
   cases b1
   ·go_wp2_with fail
    refine(SB.out V1 false WA.out.h.hs).mono ?_;rintro e V2 ⟨rfl,hs,hk⟩
    go_wp2_with fail
    go_meet;exact⟨Z' (WA.out.call hs hk),Z' (hk.row M5.out (by decide) (by decide))⟩
   have f2:V1.cell? ⟨gx,2,none⟩=some (.string ⟨f.ds.toArray⟩):=y8 M5.out 2 rfl
   go_wp2_with fail
   refine(Zj.out V1 WA.out.h.hs.vw).mono ?_;rintro e V2 ⟨rfl,ZN⟩;have Wc:=Z' (WA.out.below ZN);have Pt:=Z' (yW M5.out ZN);clear ZN WA M5 f2
   go_wp2_with fail
   refine(SB.out V2 b2 Wc.out.h.hs).mono ?_;rintro e V3 ⟨rfl,hs,hk⟩
   go_wp2_with fail
   go_meet;exact⟨Z' (Wc.out.call hs hk),Z' (hk.row Pt.out (by decide) (by decide))⟩
  obtain⟨WA,M5⟩:=hcut;clear Yv Y3 Y9 Zj
  go_upto_region 10 with fail
  have Xh:=Z' (WA.out.below (Z6.drew));have T7:=Z' (yW M5.out ((Below.refl _ wc).drew));have Z3:BxF gx go f (.slice x.fa x.fn x.fc) wc.drew:=⟨T7.out,y8 Xh.out.o 3 rfl⟩;have l0:=fun z (h:BxF gx go f (.slice x.fa x.fn x.fc) z)=>h.2
  have l1:∀z,BxF gx go f (.slice x.fa x.fn x.fc) z->z.cell? ⟨gx,0,none⟩=some (.bool f.st):=fun z h=>y8 h.1 0 rfl
  have l2:∀z,BxF gx go f (.slice x.fa x.fn x.fc) z->z.cell? ⟨gx,1,none⟩=some (.string ⟨f.nm.toArray⟩):=fun z h=>y8 h.1 1 rfl
  have l3:∀z,BxF gx go f (.slice x.fa x.fn x.fc) z->z.cell? ⟨gx,2,none⟩=some (.string ⟨f.ds.toArray⟩):=fun z h=>y8 h.1 2 rfl
  refine tq (BxF gx go f (.slice x.fa x.fn x.fc)) 17 [(0,true),(1,true),(2,true),(3,true),(5,true),(6,true),(7,true),(9,true),(10,true),(11,true),(4,false),(8,false),(12,false),(13,true),(14,false),(15,false),(16,true)] (by kernel_rfl) (by kernel_rfl) (fun c a d v w h=>by cases d<;>exact h) ?_
  generalize wc.drew=V0 at*
  iterate 10
   refine xU fun K hK=>tkF ?_
   go_simp
   try go_bits
   refine hK _ _ ?_;clear hK K
  refine xU fun K hK=>alF ?_
  go_step;refine(ni V0 f.st).mono ?_;rintro e V9 ⟨rfl,hq⟩;replace hq:=hq.symm;subst hq;go_simp
  first|refine⟨Z3,hK _ _ ?_⟩|refine hK _ _ ?_
  clear hK K;refine xU fun K hK=>alF ?_
  go_step;refine(Y'.out V0 Xh.out.h.hs Xh.out.h.hk.size).mono ?_;rintro e V1 ⟨rfl,YV,ZU⟩;have Wc:=Z' (Xh.out.call YV ZU);have Pt:=Z' (ZU.row T7.out (by decide) (by decide));have ZZ:BxF gx go f (.slice x.fa x.fn x.fc) V1:=⟨Pt.out,y8 Wc.out.o 3 rfl⟩;clear YV ZU Z3 Xh T7 WA M5 Y';have Z3:=ZZ;clear ZZ;go_simp
  first|refine⟨Z3,hK _ _ ?_⟩|refine hK _ _ ?_
  clear hK K;refine xU fun K hK=>alF ?_
  go_step;refine(VF.out V1 Wc.out.h.hs Wc.out.h.hk.size).mono ?_;rintro e V2 ⟨rfl,YV,ZU⟩;have X8:=Z' (Wc.out.call YV ZU);have Ec:=Z' (ZU.row Pt.out (by decide) (by decide));have ZZ:BxF gx go f (.slice x.fa x.fn x.fc) V2:=⟨Ec.out,y8 X8.out.o 3 rfl⟩;clear YV ZU Z3 Wc Pt VF;have Z3:=ZZ;clear ZZ;go_simp
  first|refine⟨Z3,hK _ _ ?_⟩|refine hK _ _ ?_
  clear hK K
  iterate 1
   refine xU fun K hK=>tkF ?_
   go_simp
   try go_bits
   refine hK _ _ ?_;clear hK K
  refine xU fun K hK=>alF ?_
  go_step;have ZY:Below V2.heap.size V2 (V2.alloc (.cells #[.int .i64 (xJ f.st),.int .i64 (i4:Nat),.int .i64 (i5:Nat)] r7)):=yV _ _;have XQ:BxF gx go f (.slice x.fa x.fn x.fc) (V2.alloc (.cells #[.int .i64 (xJ f.st),.int .i64 (i4:Nat),.int .i64 (i5:Nat)] r7)):=⟨yW Z3.1 ZY,yF ZY Z3.2⟩;refine⟨XQ,hK _ _ ?_⟩;clear hK K Z3 XQ ZY;refine xU fun K hK=>alF ?_
  change Oper.wp _ _ _ _ _ _;have Jc:x.fn<=1024:=by rw[N3.out];omega
  refine rP d7 (ops:= #[]) rfl _ _ _ rfl w.heap.size _ x.fn _ rfl (X8.out.w.fields.alloc _) _ 1 _ rfl (Src.litS (m:=1) rfl rfl d7.1) (by omega) (by unfold maxLen;omega) (Nat.le_trans X8.out.h.hk.size (by simp)) ?_;intro v9 w9 Z0 ZA ZK;have ZW:w9.ownsRow w.heap.size r7 3 v9 (x.fn+1) ((x.fields++[(⟨xJ f.st,(i4:Nat),(i5:Nat)⟩:KD)]).flatMap KD.cells):=(by rw[List.flatMap_append];exact Z0);obtain⟨a9,c9,rfl,-,-⟩:=Ss.ofOwn KD.cells_length (by decide) ZW;have Zt:=yd.app X8.out.w.fields ZA;have Wr:Below w.heap.size V2 w9:=(((Below.refl V2.heap.size V2).alloc Z5 _).mono X8.out.h.hk.size).trans ZK;have YH:=Z' (X8.out.app VB X8.out.w.fields ZA Wr (by decide) (by decide) (by decide) (by decide));have Vg:=Z' (X8.out.w.fields1 Zt ZW);have Z3:BxF gx go f (.slice x.fa x.fn x.fc) w9:=⟨Zt.2 _ _ _ _ Ec.out (by decide),y8 YH.out.2 3 rfl⟩;clear Z0 ZW ZA ZK Wr Zt X8 Ec;refine⟨Z3,hK _ _ ?_⟩;clear hK K
  iterate 1
   refine xU fun K hK=>tkF ?_
   go_simp
   try go_bits
   refine hK _ _ ?_;clear hK K
  have fo:=xQ YH.out.2 3;have lo:=yG YH.out.2;have co:=y8 YH.out.2 3 rfl;dsimp only[KF.cells]at co;refine tm (laF ?_);go_step;have ZC:=Z' (YH.out.1.put (x':={x with fa:=a9,fn:=x.fn+1,fc:=c9,fields:=x.fields++[(⟨xJ f.st,(i4:Nat),(i5:Nat)⟩:KD)]}) YH.out.2 WX 3 (.slice a9 (x.fn+1) c9) rfl Vg.out);clear Z3 fo lo co YH Vg l0 l1 l2 l3
  go_wp2_with fail
  go_roundg (u.fn-(j+1))
  case measure=>omega
  exact⟨j+1,{x with fa:=a9,fn:=x.fn+1,fc:=c9,fields:=x.fields++[(⟨xJ f.st,(i4:Nat),(i5:Nat)⟩:KD)]},by omega,rfl,by go_num,Z' (by rw[Ze.out,Uu.out];exact KF.lp_fields1 HX.out _ _ _ _),Z' (by rw[Ze.out,Uu.out];exact ZC.out)⟩
 have GP:j=u.fn:=by omega
 subst GP;have ZV:u.fields.take u.fn=u.fields:=List.take_of_length_le (by rw[Pc.out];exact Nat.le_refl _);rw[ZV]at HX HJ;have Q':=jb s3 u.fields;rw[Pc.out]at Q';generalize s3.fields u.fields=S5 at*;obtain⟨s5,fds⟩:=S5;dsimp only at HX HJ TU Q';obtain⟨W9,JX⟩:=Z8 (wr);subst JX;have u3:W9.cell? ⟨w.heap.size,3,none⟩=some (.slice u.ma u.mn u.mc):=y8 HJ.out.h.u 3 rfl;have Th:=Z' HU.out.methods.1;have hfm0:=Rx;rw[Th.out]at Rx;clear ZV ZX hj
 go_wp2_with fail
 go_loopg [69] u.mn (fun gn i wx=>∃(k:Nat) (x:KF),k<=u.mn/\gn=u.mn-k/\i= .int .i64 k/\Hid (x.lp=⟨none,0,0,[],(th:Nat),(su:Nat),none,0,0,fds,none,0,0,(s5.methods (u.methods.take k)).2⟩)/\Hid (FlJ w wx g go u x (s5.methods (u.methods.take k)).1))
 case atStart=>exact⟨0,_,by omega,by omega,by go_num,HX,HJ⟩
 clear HX HJ u3;obtain⟨k,x,hk,rfl,rfl,HX,HJ⟩:=hrel;by_cases ZX:k<u.mn
 ·have Wb:=Z' (HU.out.methods.below (Xj.out _ _ HJ.out.h));obtain⟨bq,off,m,Ym,Zu,hm,q⟩:=Wb.out.getC k ZX;have q0:=q 0 (by omega);have q1:=q 1 (by omega);have q2:=q 2 (by omega);have q3:=q 3 (by omega);have q4:=q 4 (by omega);have q5:=q 5 (by omega);have q6:=q 6 (by omega);have q7:=q 7 (by omega);rw[Nat.add_zero]at q0;simp only[UM.cells,List.getElem?_cons_zero,List.getElem?_cons_succ]at q0 q1 q2 q3 q4 q5 q6 q7;have XZ:(k:Int)<u.mn:=by omega
  have Vj:=List.mem_of_getElem? hm;have Xn:=Z' (HF.out.mt m Vj);have S0:=Z' (HU.out.each m Vj)
  have Ze:=Z' (show s5.methods (u.methods.take (k+1))=((((s5.methods (u.methods.take k)).1).method m).1,(s5.methods (u.methods.take k)).2++[(((s5.methods (u.methods.take k)).1).method m).2]) by
   have YP:=(Z4 hm).1;rw[List.take_succ_eq_append_getElem YP,(Z4 hm).2,cU])
  have Wp:=cG s5 (u.methods.take k) (fun m hm=>HF.out.mt m (List.mem_of_mem_take hm));rw[List.length_take,Th.out,Nat.min_eq_left hk]at Wp
  have Qn:x.mn=k:=by
   have h1:=congrArg (fun y=>y.methods.length) HX.out;have h2:=HJ.out.w.mn';have h3:=jH s5 (u.methods.take k);rw[List.length_take,Th.out,Nat.min_eq_left hk]at h3;dsimp only[KF.lp]at h1;rw[List.length_map]at h1;omega
  generalize s5.methods (u.methods.take k)=SJ at*;obtain⟨sj,lj⟩:=SJ;dsimp only at HX HJ Ze Wp;have N3:=Z' Qn;clear hm q Qn Wb Vj
  go_upto_region 15 with fail
  have ZY:=yV wr (.cells #[.bool m.st,.string ⟨m.nm.toArray⟩,.string ⟨m.ds.toArray⟩,.int .i64 m.sk,.int .i64 m.lo,.slice m.ca m.cn m.cc,.slice m.ta m.tn m.tc,.slice m.ma m.mn m.mc] yT);have Y3:=Z9 ((wr.alloc (.cells #[.bool m.st,.string ⟨m.nm.toArray⟩,.string ⟨m.ds.toArray⟩,.int .i64 m.sk,.int .i64 m.lo,.slice m.ca m.cn m.cc,.slice m.ta m.tn m.tc,.slice m.ma m.mn m.mc] yT)).heap[wr.heap.size]? =some (.cells m.cells.toArray yT (0,0))) (heap_alloc_last wr _);have Yv:=Z' (HJ.out.below ZY);clear ZY q0 q1 q2 q3 q4 q5 q6 q7 Ym Zu HJ;generalize wr.alloc _=W at*;generalize wr.heap.size=gx at*;have Xh:=Z' (Yv.out.below (Z6.drew));have T7:=Z' (yW Y3.out ((Below.refl _ W).drew));have Z3:BxN gx go m (.slice x.ma x.mn x.mc) W.drew:=⟨T7.out,y8 Xh.out.o 4 rfl⟩;have l0:=fun z (h:BxN gx go m (.slice x.ma x.mn x.mc) z)=>h.2
  have l1:=fun z (h:BxN gx go m (.slice x.ma x.mn x.mc) z)=>y8 h.1 0 rfl
  have l2:=fun z (h:BxN gx go m (.slice x.ma x.mn x.mc) z)=>y8 h.1 1 rfl
  have l3:=fun z (h:BxN gx go m (.slice x.ma x.mn x.mc) z)=>y8 h.1 2 rfl
  have l4:=fun z (h:BxN gx go m (.slice x.ma x.mn x.mc) z)=>y8 h.1 3 rfl
  have l5:=fun z (h:BxN gx go m (.slice x.ma x.mn x.mc) z)=>y8 h.1 4 rfl
  have l6:=fun z (h:BxN gx go m (.slice x.ma x.mn x.mc) z)=>y8 h.1 5 rfl
  have l7:=fun z (h:BxN gx go m (.slice x.ma x.mn x.mc) z)=>y8 h.1 6 rfl
  have l8:=fun z (h:BxN gx go m (.slice x.ma x.mn x.mc) z)=>y8 h.1 7 rfl
  dsimp only[UM.cells]at l1 l2 l3 l4 l5 l6 l7 l8
  refine tq (BxN gx go m (.slice x.ma x.mn x.mc)) 8 [(0,true),(1,true),(2,true),(3,true),(4,false),(5,false),(6,false),(7,true)] (by kernel_rfl) (by kernel_rfl) (fun c a d v w h=>by cases d<;>exact h) ?_
  generalize W.drew=V0 at*
  iterate 4
   refine xU fun K hK=>tkF ?_
   go_simp
   try go_bits
   refine hK _ _ ?_;clear hK K
  have M1:=Z' (dm V0 w w.heap.size g sj m Xh.out.h.hs S0.out (Xj.out _ _ Xh.out.h) Z5 Xn.out (by omega) Xh.out.h.hk.size VB);unfold nV at M1;generalize sj.method m=RM at*;obtain⟨s6,mm⟩:=RM;dsimp only at M1 Ze;refine xU fun K hK=>alF ?_
  go_step;refine M1.out.mono ?_;rintro e V1 ⟨y,rfl,JQ,J5,YV,ZU⟩;have HY:=Z' JQ;have J1:=Z' (J5.mono Xh.out.h.hk.size);have X8:=Z' (Xh.out.call YV ZU);have Pt:=Z' (ZU.row T7.out (by decide) (by decide));have ZZ:BxN gx go m (.slice x.ma x.mn x.mc) V1:=⟨Pt.out,y8 X8.out.o 4 rfl⟩;clear JQ J5 YV ZU Z3 Xh T7 M1 Yv Y3;have Z3:=ZZ;clear ZZ;dsimp only[KM.cells];go_simp
  first|refine⟨Z3,hK _ _ ?_⟩|refine hK _ _ ?_
  clear hK K;refine xU fun K hK=>alF ?_
  go_step;have ZY:Below V1.heap.size V1 (V1.alloc (.cells #[.int .i64 y.fl,.int .i64 y.nm,.int .i64 y.ds,.int .i64 y.st,.int .i64 y.lo,.slice y.ca y.cn y.cc,.slice y.ta y.tn y.tc,.slice y.ma y.mn y.mc] FMT)):=yV _ _;have XQ:BxN gx go m (.slice x.ma x.mn x.mc) (V1.alloc (.cells #[.int .i64 y.fl,.int .i64 y.nm,.int .i64 y.ds,.int .i64 y.st,.int .i64 y.lo,.slice y.ca y.cn y.cc,.slice y.ta y.tn y.tc,.slice y.ma y.mn y.mc] FMT)):=⟨yW Z3.1 ZY,yF ZY Z3.2⟩;refine⟨XQ,hK _ _ ?_⟩;clear hK K Z3 XQ ZY;refine xU fun K hK=>alF ?_
  change Oper.wp _ _ _ _ _ _;have Jc:x.mn<=1024:=by rw[N3.out];omega
  refine rP ei (ops:= #[]) rfl _ _ _ rfl w.heap.size _ x.mn _ rfl (X8.out.w.methods.alloc _) _ 1 _ rfl (Src.litS (m:=1) rfl rfl ei.1) (by omega) (by unfold maxLen;omega) (Nat.le_trans X8.out.h.hk.size (by simp)) ?_;intro v9 w9 Z0 ZA ZK;have ZW:w9.ownsRow w.heap.size FMT 8 v9 (x.mn+1) ((x.methods++[y]).flatMap KM.cells):=(by rw[List.flatMap_append];exact Z0);obtain⟨a9,c9,rfl,-,-⟩:=Ss.ofOwn KM.cells_length (by decide) ZW;have Zt:=yd.app X8.out.w.methods ZA;have Wr:Below w.heap.size V1 w9:=(((Below.refl V1.heap.size V1).alloc Z5 _).mono X8.out.h.hk.size).trans ZK;have YH:=Z' (X8.out.app VB X8.out.w.methods ZA Wr (by decide) (by decide) (by decide) (by decide));have Vg:=Z' (X8.out.w.methods1 Zt (J1.out.keptT Zt (by decide) (by decide) (by decide) (by decide)) ZW);have Z3:BxN gx go m (.slice x.ma x.mn x.mc) w9:=⟨Zt.2 _ _ _ _ Pt.out (by decide),y8 YH.out.2 4 rfl⟩;clear Z0 ZW ZA ZK Wr Zt X8 Pt J1;refine⟨Z3,hK _ _ ?_⟩;clear hK K
  iterate 1
   refine xU fun K hK=>tkF ?_
   go_simp
   try go_bits
   refine hK _ _ ?_;clear hK K
  have fo:=xQ YH.out.2 4;have lo:=yG YH.out.2;have co:=y8 YH.out.2 4 rfl;dsimp only[KF.cells]at co;refine tm (laF ?_);go_step;have ZC:=Z' (YH.out.1.put (x':={x with ma:=a9,mn:=x.mn+1,mc:=c9,methods:=x.methods++[y]}) YH.out.2 WX 4 (.slice a9 (x.mn+1) c9) rfl Vg.out);clear Z3 fo lo co YH Vg l0 l1 l2 l3 l4 l5 l6 l7 l8
  go_wp2_with fail
  go_roundg (u.mn-(k+1))
  case measure=>omega
  exact⟨k+1,{x with ma:=a9,mn:=x.mn+1,mc:=c9,methods:=x.methods++[y]},by omega,rfl,by go_num,Z' (by rw[Ze.out];have h:=KF.lp_methods1 HX.out a9 (x.mn+1) c9 y;rw[HY.out]at h;exact h),Z' (by rw[Ze.out];exact ZC.out)⟩
 have Zt:k=u.mn:=by omega
 subst Zt;have ZV:u.methods.take u.mn=u.methods:=List.take_of_length_le (by rw[Th.out];exact Nat.le_refl _);rw[ZV]at HX HJ;generalize s5.methods u.methods=S6 at*;obtain⟨s6,mts⟩:=S6;dsimp only at HX HJ TU;clear ZV ZX hk;obtain⟨a,cap,b,EW⟩:=HJ.out.h.hs;have TX:=Z' EW;obtain⟨c0,c1,c2,g0,g1,g2,glt⟩:=EW.k.box;have fo:=xQ HJ.out.o 0;have lo:=yG HJ.out.o;have co:=y8 HJ.out.o 0 rfl;dsimp only[KF.cells]at co;clear EW
 go_upto_region 18 with fail
 have Yv:=Z9 (FlJ w (wr.setCell ⟨go,0,none⟩ (.slice a s6.l.length cap)) g go u {x with pa:=a,pn:=s6.l.length,pc:=cap,pool:=s6.l} s6) (HJ.out.h.put HJ.out.o WX 0 _ rfl ⟨HJ.out.w.fields,HJ.out.w.methods,HJ.out.w.each⟩);have R7:=Z' (xA TX.out.o (uz HJ.out.o 0 (.slice a s6.l.length cap)) (show x7≠xq by decide))
 have F0:=Z9 (KF.lp {x with pa:=a,pn:=s6.l.length,pc:=cap,pool:=s6.l}=(xi u).2) (by
  rw[TU.out];have h:=HX.out;simp only[KF.lp,KF.mk.injEq]at h⊢;obtain⟨-,-,-,e1,e2,e3,-,-,-,e4,-,-,-,e5⟩:=h;exact⟨trivial,trivial,trivial,trivial,e2,e3,trivial,trivial,trivial,e4,trivial,trivial,trivial,e5⟩)
 have CV:=Z9 ((xi u).1=s6) (by rw[TU.out]);have Gc:=Z9 (tL (wr.setCell ⟨go,0,none⟩ (.slice a s6.l.length cap)) g (.slice a s6.l.length cap) (.map (some b)) (.int .i64 s6.e) wi) (wQ TX.out.k (by omega) 0 _);rw[CV.out]at NL HE;clear c0 c1 c2 g0 g1 g2 glt fo lo co HJ HX TU TX;generalize wr.setCell ⟨go,0,none⟩ (.slice a s6.l.length cap)=V1 at*;generalize KZ:({x with pa:=a,pn:=s6.l.length,pc:=cap,pool:=s6.l}:KF)=x1 at*;have XL:=Z9 (V1.ownsRow w.heap.size x7 5 (.slice x1.pa x1.pn x1.pc) x1.pn (x1.pool.flatMap KV.cells)) (by rw[<-KZ];exact R7.out);have Tq:=Z' (Xj.out _ _ Yv.out.h);have Uw:=Z' Yv.out.h.z;clear KZ R7;obtain⟨c0,c1,c2,g0,g1,g2,glt⟩:=Gc.out.box;by_cases h0:s6.e=0
 ·have e0:(s6.e==0)=true:=by simpa using h0
  have DR:=Z' h0;have Vf:=Z' (Yv.out.w.rd XL.out);have JA:=Z' (E3r u HF.out x1 V1 F0.out Vf.out (by rw[CV.out];exact h0));have Tw:=Z' (jg V1 x1 Vf.out JA.out);unfold pi at Tw
  obtain⟨r,hr⟩:∃r:Int,r=if xn x1 then 0 else 8:=⟨_,rfl⟩
  rw[<-hr]at Tw;have Xt:=Z9 (un u=r) (by rw[HE.out,if_pos h0,hr,<-jn x1,F0.out]);have x0:=y8 Yv.out.o 0 rfl;have x1c:=y8 Yv.out.o 1 rfl;have x2:=y8 Yv.out.o 2 rfl;have x3:=y8 Yv.out.o 3 rfl;have x4:=y8 Yv.out.o 4 rfl;dsimp only[KF.cells]at x0 x1c x2 x3 x4;clear h0 hr
  go_wp2_with fail
  refine Tw.out.mono ?_;rintro e V2 ⟨rfl,ZN⟩;have UV:=Z' (Gc.out.below ZN);have WA:=Z' (Yv.out.below ZN);have Ts:=Z' (wE XL.out ZN);have ZT:=Z7 Tq ZN;clear ZN Tw Gc Yv Vf Tq Uw c0 c1 c2 g0 g1 g2 glt x0 x1c x2 x3 x4 XL;obtain⟨c0,c1,c2,g0,g1,g2,glt⟩:=UV.out.box
  go_upto_region 20 with fail
  have Jd:=Z9 (tL (V2.setCell ⟨g,2,none⟩ (.int .i64 r)) g (.slice a s6.l.length cap) (.map (some b)) (.int .i64 r) wi) (wZ UV.out 2 _);have Uh:=Z9 ((V2.setCell ⟨g,2,none⟩ (.int .i64 r)).heap[w.heap.size+1]? =some (.cells #[.slice none 0 0,.int .i64 0,.int .i64 0,.slice none 0 0,.slice none 0 0] xq (0,0))) (wQ WA.out.h.z (by omega) 2 _);have VX:=Z9 ((V2.setCell ⟨g,2,none⟩ (.int .i64 r)).heap[go]? =some (.cells x1.cells.toArray xq (0,0))) (wQ WA.out.o (by omega) 2 _);have GJ:=Z' (WA.out.w.keptT (uz UV.out 2 (.int .i64 r)) (by decide) (by decide) (by decide) (by decide) (by decide) (by decide));have WC:=Z' (xA Ts.out (uz UV.out 2 (.int .i64 r)) (by decide));have ZG:=Z' (ZT.out.trans (show Below w.heap.size V2 (V2.setCell ⟨g,2,none⟩ (.int .i64 r))from Z6.setCell (show w.heap.size<=g by omega) _));clear UV WA Ts ZT c0 c1 c2 g0 g1 g2 glt;generalize V2.setCell ⟨g,2,none⟩ (.int .i64 r)=V3 at*;have c2:V3.cell? ⟨g,2,none⟩=some (.int .i64 r):=Jd.out.box.c2;have Lv:=Z' c2;by_cases hr0:r=0
  ·have e1:(r !=0)=false:=by simp[hr0]
   have Wh:=Z9 (un u=0) (Xt.out.trans hr0);clear hr0
   go_upto_region 22 with fail
   refine wp_region_lit ?_;refine xN rfl _ _ rfl _ rfl _ _ _ _ VX.out underlying26 rfl rS ?_;refine wpList_store_row rfl _ _ _ rfl _ _ rfl rfl _ _ Uh.out rS rfl (kU _) ?_
   go_wp2_with fail
   refine bodyPost_ret (x8 rfl _ _ (w.heap.size+1) xq (KF.cells _).toArray (0,0) _ rfl (setRow_heap _ _ _ _ _ _ Uh.out) underlying26 rfl rS) rfl ?_;have Zt:=sH (cs':=x1.cells.toArray) Uh.out;exact⟨x1,by rw[Wh.out];rfl,fun _=>⟨F0.out,KF.Ow.rd (GJ.out.keptT Zt (by decide) (by decide) (by decide) (by decide) (by decide) (by decide)) (xA WC.out Zt (by decide)),JA.out⟩,fun h=>absurd Wh.out h,ZG.out.trans (below_setRow (by omega) _)⟩
  have e1:(r !=0)=true:=by simp[hr0]
  have Gt:=Z' hr0;clear hr0
  go_upto_region 21 with fail
  have Z3:QEl g (r) V3.drew:=Lv.out;have l0:∀z,QEl g (r) z->z.cell? ⟨g,2,none⟩=some (.int .i64 (r)):=fun z h=>h
  refine ye (QEl g (r)) (.of [(0,true),(1,true),(2,true),(3,true),(4,true),(5,false)] (.stir [(6,true)])) (by kernel_rfl) (by kernel_rfl) (fun c a d v w h=>by cases d<;>exact h) ?_
  have NK:=Z9 (V3.drew.heap[w.heap.size+1]? =some (.cells #[.slice none 0 0,.int .i64 0,.int .i64 0,.slice none 0 0,.slice none 0 0] xq (0,0))) Uh.out;have Yk:=Z' (ZG.out.trans (((Below.refl V3.heap.size V3).drew).mono ZG.out.size));generalize V3.drew=Vd at*
  iterate 5
   refine yY fun K hK=>tkF ?_
   go_simp
   try go_bits
   refine hK _ _ ?_;clear hK K
  refine yY fun K hK=>alF ?_
  refine wp_store_row xq _ _ rfl (w.heap.size+1) #[.slice none 0 0,.int .i64 0,.int .i64 0,.slice none 0 0,.slice none 0 0] rfl rfl xq _ NK.out rS rfl (kU ⟨none,0,0,[],0,0,none,0,0,[],none,0,0,[]⟩) ?_
  have ZZ:QEl g (r) (Vd.setRow (w.heap.size+1) #[.slice none 0 0,.int .i64 0,.int .i64 0,.slice none 0 0,.slice none 0 0]):=by
   have h:=Z3;unfold QEl World.cell? at h⊢;rw[setRow_other Vd (w.heap.size+1) g _ (by omega)];exact h
  refine⟨ZZ,hK _ _ ?_⟩;clear hK K Z3;refine yA (fun y=>y=Vd.setRow (w.heap.size+1) #[.slice none 0 0,.int .i64 0,.int .i64 0,.slice none 0 0,.slice none 0 0]) (fun y hy=>hy▸ZZ) rfl ?_
  iterate 1
   refine yH fun K hK=>tkX ?_
   go_simp
   try go_bits
   refine hK _ ?_;clear hK K
  refine yE (fun y hy=> ?_);subst hy
  go_wp2_with fail
  refine bodyPost_ret (x8 rfl _ _ (w.heap.size+1) xq (KF.cells ⟨none,0,0,[],0,0,none,0,0,[],none,0,0,[]⟩).toArray (0,0) _ rfl (setRow_heap _ _ _ _ _ _ NK.out) underlying26 rfl rS) rfl ?_;exact⟨_,by rw[Xt.out];rfl,fun h=>absurd (Xt.out.symm.trans h) Gt.out,fun _=>rfl,Yk.out.trans (below_setRow (by omega) _)⟩
 have e0:(s6.e==0)=false:=by simpa using h0
 have e1:(s6.e !=0)=true:=by simpa using h0
 have Gt:=Z' h0;have Xt:=Z9 (un u=s6.e) (by rw[HE.out,if_neg h0]);have Lv:=Z' c2;clear h0
 go_upto_region 21 with fail
 have Z3:QEl g (s6.e) V1.drew:=Lv.out;have l0:∀z,QEl g (s6.e) z->z.cell? ⟨g,2,none⟩=some (.int .i64 (s6.e)):=fun z h=>h
 refine ye (QEl g (s6.e)) (.of [(0,true),(1,true),(2,true),(3,true),(4,true),(5,false)] (.stir [(6,true)])) (by kernel_rfl) (by kernel_rfl) (fun c a d v w h=>by cases d<;>exact h) ?_
 have NK:=Z9 (V1.drew.heap[w.heap.size+1]? =some (.cells #[.slice none 0 0,.int .i64 0,.int .i64 0,.slice none 0 0,.slice none 0 0] xq (0,0))) Uw.out;have Yk:=Z' (Tq.out.trans (((Below.refl V1.heap.size V1).drew).mono Tq.out.size));generalize V1.drew=Vd at*
 iterate 5
  refine yY fun K hK=>tkF ?_
  go_simp
  try go_bits
  refine hK _ _ ?_;clear hK K
 refine yY fun K hK=>alF ?_
 refine wp_store_row xq _ _ rfl (w.heap.size+1) #[.slice none 0 0,.int .i64 0,.int .i64 0,.slice none 0 0,.slice none 0 0] rfl rfl xq _ NK.out rS rfl (kU ⟨none,0,0,[],0,0,none,0,0,[],none,0,0,[]⟩) ?_
 have ZZ:QEl g (s6.e) (Vd.setRow (w.heap.size+1) #[.slice none 0 0,.int .i64 0,.int .i64 0,.slice none 0 0,.slice none 0 0]):=by
  have h:=Z3;unfold QEl World.cell? at h⊢;rw[setRow_other Vd (w.heap.size+1) g _ (by omega)];exact h
 refine⟨ZZ,hK _ _ ?_⟩;clear hK K Z3;refine yA (fun y=>y=Vd.setRow (w.heap.size+1) #[.slice none 0 0,.int .i64 0,.int .i64 0,.slice none 0 0,.slice none 0 0]) (fun y hy=>hy▸ZZ) rfl ?_
 iterate 1
  refine yH fun K hK=>tkX ?_
  go_simp
  try go_bits
  refine hK _ ?_;clear hK K
 refine yE (fun y hy=> ?_);subst hy
 go_wp2_with fail
 refine bodyPost_ret (x8 rfl _ _ (w.heap.size+1) xq (KF.cells ⟨none,0,0,[],0,0,none,0,0,[],none,0,0,[]⟩).toArray (0,0) _ rfl (setRow_heap _ _ _ _ _ _ NK.out) underlying26 rfl rS) rfl ?_;exact⟨_,by rw[Xt.out];rfl,fun h=>absurd (Xt.out.symm.trans h) Gt.out,fun _=>rfl,Yk.out.trans (below_setRow (by omega) _)⟩
end
section
open Go.ChangeShapes Go.WideShapes Go.ChangeAt Go.RowKit
theorem dB:prog.underlying 85=some (.struct (prog.fieldsOf 85)):=by kernel_rfl
theorem cz:prog.stoodInHeld 85=false:=by kernel_rfl
theorem cV:prog.eqGuardType prog.depth 85=false:=by kernel_rfl
theorem bz:(prog.fieldsOf 85).toList.map (fun f=>(f.name,f.type,f.offset))=[("From",3,0),("To",3,1),("At",3,2),("Class",9,3)]:=by kernel_rfl
theorem df(w:World)(d:Nat)(x0:Int)(x1:Int)(x2:Int)(x3:List UInt8):(Op.equalIn (d+1+1) 85 (.agg #[.int .i64 x0,.int .i64 x1,.int .i64 x2,.string ⟨x3.toArray⟩]) (.agg #[.int .i64 x0,.int .i64 x1,.int .i64 x2,.string ⟨x3.toArray⟩])).run prog w= .ok true w:=by
 rw[run_equalIn_struct w (d+1) _ _ _ dB cz];have hl:=bz
 match hf:(prog.fieldsOf 85).toList,hl with
 |[f0,f1,f2,f3],hl=>
  simp only[List.map_cons,List.map_nil,List.cons.injEq,Prod.mk.injEq,and_true]at hl;obtain⟨⟨n0,t0,o0⟩,⟨n1,t1,o1⟩,⟨n2,t2,o2⟩,⟨n3,t3,o3⟩⟩:=hl;simp only[Op.eqFields,n0,n1,n2,n3,t0,t1,t2,t3,o0,o1,o2,o3];have i0:∀(i:Nat) (cs:Array Value) (w:World) (h:i<cs.size),(part 3 cs i).run prog w= .ok cs[i] w:=fun i cs w h=>rv underlying3 rfl w cs i _ (Array.getElem?_eq_getElem h)
  have i1:∀(i:Nat) (cs:Array Value) (w:World) (h:i<cs.size),(part 9 cs i).run prog w= .ok cs[i] w:=fun i cs w h=>rv underlying9 rfl w cs i _ (Array.getElem?_eq_getElem h)
  have i2:∀(i:Nat) (cs:Array Value) (w:World) (h:i<cs.size),(part 4 cs i).run prog w= .ok cs[i] w:=fun i cs w h=>rv underlying4 rfl w cs i _ (Array.getElem?_eq_getElem h)
  simp[i0,i1,i2,run_equalIn_int _ _ _ _ _ _ _ underlying3,run_equalIn_string _ _ _ _ _ underlying9,run_equalIn_bool _ _ _ _ _ underlying4]
 |[],hl|[_],hl|[_,_],hl|[_,_,_],hl|_::_::_::_::_::_,hl=>simp at hl
theorem D2b(w:World)(x0:Int)(x1:Int)(x2:Int)(x3:List UInt8)(y1 y2:Operand):((eqGuard .neq 85 y1 y2 (.agg #[.int .i64 x0,.int .i64 x1,.int .i64 x2,.string ⟨x3.toArray⟩]) (.agg #[.int .i64 x0,.int .i64 x1,.int .i64 x2,.string ⟨x3.toArray⟩])).run prog w).andThen (fun _ w'=>(binOp .neq 85 (.agg #[.int .i64 x0,.int .i64 x1,.int .i64 x2,.string ⟨x3.toArray⟩]) (.agg #[.int .i64 x0,.int .i64 x1,.int .i64 x2,.string ⟨x3.toArray⟩])).run prog w')= .ok (.bool false) w:=by
 have h:=df w 9998 x0 x1 x2 x3;rw[run_eqGuard_agg w _ _ _ _ _ _ cV,Result.andThen_ok,run_neq_struct,h,Result.andThen_ok];rfl
theorem dH:prog.underlying 52=some (.struct (prog.fieldsOf 52)):=by kernel_rfl
theorem cZ:prog.stoodInHeld 52=false:=by kernel_rfl
theorem dD:prog.eqGuardType prog.depth 52=false:=by kernel_rfl
theorem dn:(prog.fieldsOf 52).toList.map (fun f=>(f.name,f.type,f.offset))=[("Static",4,0),("Name",9,1),("Desc",9,2)]:=by kernel_rfl
theorem dE(w:World)(d:Nat)(x0:Bool)(x1:List UInt8)(x2:List UInt8):(Op.equalIn (d+1+1) 52 (.agg #[.bool x0,.string ⟨x1.toArray⟩,.string ⟨x2.toArray⟩]) (.agg #[.bool x0,.string ⟨x1.toArray⟩,.string ⟨x2.toArray⟩])).run prog w= .ok true w:=by
 rw[run_equalIn_struct w (d+1) _ _ _ dH cZ];have hl:=dn
 match hf:(prog.fieldsOf 52).toList,hl with
 |[f0,f1,f2],hl=>
  simp only[List.map_cons,List.map_nil,List.cons.injEq,Prod.mk.injEq,and_true]at hl;obtain⟨⟨n0,t0,o0⟩,⟨n1,t1,o1⟩,⟨n2,t2,o2⟩⟩:=hl;simp only[Op.eqFields,n0,n1,n2,t0,t1,t2,o0,o1,o2];have i0:∀(i:Nat) (cs:Array Value) (w:World) (h:i<cs.size),(part 3 cs i).run prog w= .ok cs[i] w:=fun i cs w h=>rv underlying3 rfl w cs i _ (Array.getElem?_eq_getElem h)
  have i1:∀(i:Nat) (cs:Array Value) (w:World) (h:i<cs.size),(part 9 cs i).run prog w= .ok cs[i] w:=fun i cs w h=>rv underlying9 rfl w cs i _ (Array.getElem?_eq_getElem h)
  have i2:∀(i:Nat) (cs:Array Value) (w:World) (h:i<cs.size),(part 4 cs i).run prog w= .ok cs[i] w:=fun i cs w h=>rv underlying4 rfl w cs i _ (Array.getElem?_eq_getElem h)
  simp[i0,i1,i2,run_equalIn_int _ _ _ _ _ _ _ underlying3,run_equalIn_string _ _ _ _ _ underlying9,run_equalIn_bool _ _ _ _ _ underlying4]
 |[],hl|[_],hl|[_,_],hl|_::_::_::_::_,hl=>simp at hl
theorem ci(w:World)(x0:Bool)(x1:List UInt8)(x2:List UInt8)(y1 y2:Operand):((eqGuard .neq 52 y1 y2 (.agg #[.bool x0,.string ⟨x1.toArray⟩,.string ⟨x2.toArray⟩]) (.agg #[.bool x0,.string ⟨x1.toArray⟩,.string ⟨x2.toArray⟩])).run prog w).andThen (fun _ w'=>(binOp .neq 52 (.agg #[.bool x0,.string ⟨x1.toArray⟩,.string ⟨x2.toArray⟩]) (.agg #[.bool x0,.string ⟨x1.toArray⟩,.string ⟨x2.toArray⟩])).run prog w')= .ok (.bool false) w:=by
 have h:=dE w 9998 x0 x1 x2;rw[run_eqGuard_agg w _ _ _ _ _ _ dD,Result.andThen_ok,run_neq_struct,h,Result.andThen_ok];rfl
theorem D2t(w:World)(x:IN)(y1 y2:Operand):((eqGuard .neq yU y1 y2 (.agg x.cells.toArray) (.agg x.cells.toArray)).run prog w).andThen (fun _ w'=>(binOp .neq yU (.agg x.cells.toArray) (.agg x.cells.toArray)).run prog w')= .ok (.bool false) w:=by
 have h:=mX w 9998 x x;rw[show uP x x=true by simp[uP]]at h;unfold IN.cells at*;rw[run_eqGuard_agg w _ _ _ _ _ _ mY,Result.andThen_ok,run_neq_struct,h,Result.andThen_ok];rfl
theorem qv(x:List UInt8):((⟨x.toArray⟩:ByteArray).toList !=(⟨x.toArray⟩:ByteArray).toList)=false:=by simp
theorem jV(w:World)(a:Option Addr)(n cap:Nat)(b:Option Addr)(cb:Nat)(l:List (List UInt8))(hs:Sl xX w a n l)(ht:Sl xX w b n l)(hn:n<=1000000000):
  Calls prog 70 #[.slice a n cap,.slice b n cb] w (yS true w):=by
 have HS:=Z' hs;have HT:=Z' ht;clear hs ht;go_enter func70,ntmps70;have e1:((n:Int) !=(n:Int))=false:=by simp
 go_wp2_with fail
 go_loopg [13] n (fun gn i wr=>∃j:Nat,j<=n/\gn=n-j/\i= .int .i64 j/\Hid (Below w.heap.size w wr))
 case atStart=>exact⟨0,by omega,by omega,by go_num,Z' Z6⟩
 obtain⟨j,hj,rfl,rfl,HB⟩:=hrel;by_cases ZX:j<n
 ·obtain⟨b1,YR,x,rfl,_,hv,p⟩:=Sl.getE (HS.out.below HB.out) j ZX;obtain⟨b2,Zf,y,rfl,_,Wj,q⟩:=Sl.getE (HT.out.below HB.out) j ZX;obtain rfl:x=y:=by rw[hv]at Wj;exact Option.some.inj Wj
  unfold xX at p q;clear hv Wj;have XZ:(j:Int)<n:=by omega
  go_upto_region 6 with fail
  have Z3:EqW wr.drew wr.drew:=rfl;have l0:=fun u (h:EqW wr.drew u)=>xv h p
  have m0:=fun u (h:EqW wr.drew u)=>xv h q
  have ne2:=qv x;clear p q
  refine ye (EqW wr.drew) (.stir [(0,true),(1,true),(2,true),(3,true),(4,true),(5,true),(6,true),(7,true),(8,true)]) (by kernel_rfl) (by kernel_rfl) (fun c a d v w h=>by cases d<;>exact h) ?_
  refine yA (EqW wr.drew) (fun y hy=>hy) rfl ?_
  iterate 9
   refine yH fun K hK=>tkX ?_
   go_simp
   try go_bits
   refine hK _ ?_;clear hK K
  refine yE (fun u hu=> ?_);obtain rfl:u=wr.drew:=hu;clear l0 m0 Z3
  go_wp2_with fail
  go_roundg (n-(j+1))
  case measure=>omega
  exact⟨j+1,by omega,rfl,by go_num,Z' HB.out.drew⟩
 obtain rfl:n=j:=by omega
 go_wp2_with fail
 go_ret;exact⟨rfl,HB.out⟩
theorem dw(w:World)(m m2:UM)(h:m.Rd w)(h2:m2.Rd w)(hp:m.p=m2.p)(hf:m.Fit)(Y1:∀p∈m.maps,p.ln<=1000000000/\p.sn<=1000000000):
  Calls prog 30 #[.agg m.cells.toArray,.agg m2.cells.toArray] w (yS true w):=by
 have HX:=Z' h;have HY:=Z' h2;have YY:=Z' Y1;have l1:=h.code.1;have l2:=h.traps.1;have l3:=h.maps.1;have r1:=h2.code.1;have r2:=h2.traps.1;have r3:=h2.maps.1;have f1:=hf.code;have f2:=hf.traps;have f3:=hf.maps;clear h h2 Y1 hf;obtain⟨st,nm,ds,sk,lo,ca,cn,cc,code,ta,tn,tc,traps,na,nn,nc,maps⟩:=m;obtain⟨ME,Zs,Zq,CW,DX,Lj,Em,J4,J',JH,EZ,Ld,Nn,Le,D5,KJ,KG⟩:=m2;simp only[UM.p,UM.mk.injEq]at hp;obtain⟨rfl,rfl,rfl,rfl,rfl,-,-,-,rfl,-,-,-,rfl,-,-,-,VL⟩:=hp;dsimp only at*;have l4:=congrArg List.length VL;rw[List.length_map,List.length_map]at l4;obtain rfl:cn=Em:=by omega
 obtain rfl:tn=EZ:=by omega
 obtain rfl:nn=D5:=by omega
 have ZQ:cn<=1000000000:=by omega
 have ZN:tn<=1000000000:=by omega
 have Zn:nn<=1000000000:=by omega
 have Ux:=Z' VL;clear l1 l2 l3 r1 r2 r3 l4 VL f1 f2 f3;unfold UM.cells;dsimp only;have Ta:Below w.heap.size w (w.alloc (.cells #[.bool st,.string ⟨nm.toArray⟩,.string ⟨ds.toArray⟩,.int .i64 sk,.int .i64 lo,.slice ca cn cc,.slice ta tn tc,.slice na nn nc] 59)):=yV _ _;have SS:=yV (w.alloc (.cells #[.bool st,.string ⟨nm.toArray⟩,.string ⟨ds.toArray⟩,.int .i64 sk,.int .i64 lo,.slice ca cn cc,.slice ta tn tc,.slice na nn nc] 59)) (.cells #[.bool st,.string ⟨nm.toArray⟩,.string ⟨ds.toArray⟩,.int .i64 sk,.int .i64 lo,.slice Lj cn J4,.slice JH tn Ld,.slice Le nn KJ] 59);have Y3:=Z' (yW (heap_alloc_last w (.cells #[.bool st,.string ⟨nm.toArray⟩,.string ⟨ds.toArray⟩,.int .i64 sk,.int .i64 lo,.slice ca cn cc,.slice ta tn tc,.slice na nn nc] 59)) SS);have Y':=heap_alloc_last (w.alloc (.cells #[.bool st,.string ⟨nm.toArray⟩,.string ⟨ds.toArray⟩,.int .i64 sk,.int .i64 lo,.slice ca cn cc,.slice ta tn tc,.slice na nn nc] 59)) (.cells #[.bool st,.string ⟨nm.toArray⟩,.string ⟨ds.toArray⟩,.int .i64 sk,.int .i64 lo,.slice Lj cn J4,.slice JH tn Ld,.slice Le nn KJ] 59);rw[show(w.alloc (.cells #[.bool st,.string ⟨nm.toArray⟩,.string ⟨ds.toArray⟩,.int .i64 sk,.int .i64 lo,.slice ca cn cc,.slice ta tn tc,.slice na nn nc] 59)).heap.size=w.heap.size+1 by simp]at Y';replace Y':=Z' Y';have Zp:=Z' (Ta.trans (SS.mono Ta.size));clear Ta SS;go_enter func30,ntmps30
 go_upto_region 1 with fail
 generalize(w.alloc (.cells #[.bool st,.string ⟨nm.toArray⟩,.string ⟨ds.toArray⟩,.int .i64 sk,.int .i64 lo,.slice ca cn cc,.slice ta tn tc,.slice na nn nc] 59)).alloc (.cells #[.bool st,.string ⟨nm.toArray⟩,.string ⟨ds.toArray⟩,.int .i64 sk,.int .i64 lo,.slice Lj cn J4,.slice JH tn Ld,.slice Le nn KJ] 59)=W0 at*;obtain⟨u1,Ps⟩:∃b,b=w.heap.size:=⟨_,rfl⟩;obtain⟨u2,MJ⟩:∃b,b=w.heap.size+1:=⟨_,rfl⟩;rw[<-Ps]at Y3;rw[<-MJ]at Y';rw[<-MJ,<-Ps];clear Ps MJ;have k0:=y8 Y3.out 0 rfl;have k1:=y8 Y3.out 1 rfl;have k2:=y8 Y3.out 2 rfl;have k3:=y8 Y3.out 3 rfl;have k4:=y8 Y3.out 4 rfl;have k5:=y8 Y3.out 5 rfl;have k6:=y8 Y3.out 6 rfl;have k7:=y8 Y3.out 7 rfl;have j0:=y8 Y'.out 0 rfl;have j1:=y8 Y'.out 1 rfl;have j2:=y8 Y'.out 2 rfl;have j3:=y8 Y'.out 3 rfl;have j4:=y8 Y'.out 4 rfl;have j5:=y8 Y'.out 5 rfl;have j6:=y8 Y'.out 6 rfl;have j7:=y8 Y'.out 7 rfl;dsimp at k0 k1 k2 k3 k4 k5 k6 k7 j0 j1 j2 j3 j4 j5 j6 j7;have e0:(st !=st)=false:=by simp
 have zS:=qv nm;have Uf:=qv ds;have e3:(sk !=sk)=false:=by simp
 have e4:(lo !=lo)=false:=by simp
 have e5:((cn:Int) !=(cn:Int))=false:=by simp
 have e6:((tn:Int) !=(tn:Int))=false:=by simp
 have e7:((nn:Int) !=(nn:Int))=false:=by simp
 go_cut [67] (fun r wx=>r= .bool false/\wx=W0)
 case first=>
  go_wp2_with fail
  go_meet;exact⟨by simp,rfl⟩
 obtain⟨rfl,rfl⟩:=hcut;clear e0 e3 e4 e5 e6 e7 zS Uf k0 k1 k2 k3 k4 j0 j1 j2 j3 j4 j5 k7 j7 j6 k6
 go_wp2_with fail
 clear k5
 go_loopg [71] cn (fun gn i wr=>∃j:Nat,j<=cn/\gn=cn-j/\i= .int .i64 j/\Hid (Below wc.heap.size wc wr))
 case atStart=>exact⟨0,by omega,by omega,by go_num,Z' Z6⟩
 obtain⟨j,hj,rfl,rfl,HB⟩:=hrel;have Um:=Z7 Zp HB.out;by_cases ZX:j<cn
 ·skip
  obtain⟨b1,YR,x,rfl,_,hv,p⟩:=Ss.getC (HX.out.code.below Um.out) j ZX;obtain⟨b2,Zf,y,rfl,_,Wj,q⟩:=Ss.getC (HY.out.code.below Um.out) j ZX;obtain rfl:x=y:=by rw[hv]at Wj;exact Option.some.inj Wj
  obtain⟨op,n,m,cl,nx,dx,tx⟩:=x;have p0:wr.cell? ⟨b1,YR+j*7,none⟩=some (.int .u8 (op:Nat)):=p 0 (by omega);have p1:wr.cell? ⟨b1,YR+j*7+1,none⟩=some (.int .i64 n):=p 1 (by omega);have p2:wr.cell? ⟨b1,YR+j*7+2,none⟩=some (.int .i64 m):=p 2 (by omega);have p3:wr.cell? ⟨b1,YR+j*7+3,none⟩=some (.string ⟨cl.toArray⟩):=p 3 (by omega);have p4:wr.cell? ⟨b1,YR+j*7+4,none⟩=some (.string ⟨nx.toArray⟩):=p 4 (by omega);have p5:wr.cell? ⟨b1,YR+j*7+5,none⟩=some (.string ⟨dx.toArray⟩):=p 5 (by omega);have p6:wr.cell? ⟨b1,YR+j*7+6,none⟩=some (.string ⟨tx.toArray⟩):=p 6 (by omega);have q0:wr.cell? ⟨b2,Zf+j*7,none⟩=some (.int .u8 (op:Nat)):=q 0 (by omega);have q1:wr.cell? ⟨b2,Zf+j*7+1,none⟩=some (.int .i64 n):=q 1 (by omega);have q2:wr.cell? ⟨b2,Zf+j*7+2,none⟩=some (.int .i64 m):=q 2 (by omega);have q3:wr.cell? ⟨b2,Zf+j*7+3,none⟩=some (.string ⟨cl.toArray⟩):=q 3 (by omega);have q4:wr.cell? ⟨b2,Zf+j*7+4,none⟩=some (.string ⟨nx.toArray⟩):=q 4 (by omega);have q5:wr.cell? ⟨b2,Zf+j*7+5,none⟩=some (.string ⟨dx.toArray⟩):=q 5 (by omega);have q6:wr.cell? ⟨b2,Zf+j*7+6,none⟩=some (.string ⟨tx.toArray⟩):=q 6 (by omega);have k6:=y8 (yW Y3.out HB.out) 5 rfl;have j6:=y8 (yW Y'.out HB.out) 5 rfl;dsimp at k6 j6;clear p q hv Wj;have XZ:(j:Int)<cn:=by omega
  go_upto_region 6 with fail
  have Z3:EqW wr.drew wr.drew:=rfl;have l0:=fun u (h:EqW wr.drew u)=>xv h p0
  have m0:=fun u (h:EqW wr.drew u)=>xv h q0
  have l1:=fun u (h:EqW wr.drew u)=>xv h p1
  have m1:=fun u (h:EqW wr.drew u)=>xv h q1
  have l2:=fun u (h:EqW wr.drew u)=>xv h p2
  have m2:=fun u (h:EqW wr.drew u)=>xv h q2
  have l3:=fun u (h:EqW wr.drew u)=>xv h p3
  have m3:=fun u (h:EqW wr.drew u)=>xv h q3
  have l4:=fun u (h:EqW wr.drew u)=>xv h p4
  have m4:=fun u (h:EqW wr.drew u)=>xv h q4
  have l5:=fun u (h:EqW wr.drew u)=>xv h p5
  have m5:=fun u (h:EqW wr.drew u)=>xv h q5
  have l6:=fun u (h:EqW wr.drew u)=>xv h p6
  have m6:=fun u (h:EqW wr.drew u)=>xv h q6
  have n0:=fun u (h:EqW wr.drew u)=>xv h k6
  have n1:=fun u (h:EqW wr.drew u)=>xv h j6
  have Sp:=Z' (fun u o1 o2=>by simpa[IN.cells]using D2t u ⟨op,n,m,cl,nx,dx,tx⟩ o1 o2);clear p0 q0 p1 q1 p2 q2 p3 q3 p4 q4 p5 q5 p6 q6 k6 j6
  refine ye (EqW wr.drew) (.stir [(0,true),(1,true),(2,true),(3,true),(4,true),(5,true),(6,true),(7,true),(8,true),(9,true),(10,true)]) (by kernel_rfl) (by kernel_rfl) (fun c a d v w h=>by cases d<;>exact h) ?_
  refine yA (EqW wr.drew) (fun y hy=>hy) rfl ?_
  iterate 10
   refine yH fun K hK=>tkX ?_
   go_simp
   try go_bits
   refine hK _ ?_;clear hK K
  refine yH (fun K hK=> ?_);simp only[xy,List.getElem?_toArray,List.getElem?_cons_succ,List.getElem?_cons_zero];rw[if_pos (by rfl)];refine⟨Value.bool false,fun w' Y7=> ?_,?_⟩
  ·exact np (by rfl) (Sp.out w' _ _)
  go_simp;refine hK _ ?_;clear hK K;refine yE (fun u hu=> ?_);obtain rfl:u=wr.drew:=hu;clear l0 m0 l1 m1 l2 m2 l3 m3 l4 m4 l5 m5 l6 m6 n0 n1 Sp Z3
  go_wp2_with fail
  go_roundg (cn-(j+1))
  case measure=>omega
  exact⟨j+1,by omega,rfl,by go_num,Z' HB.out.drew⟩
 obtain rfl:cn=j:=by omega
 have SY:=Z' (yW Y3.out HB.out);have Q2:=Z' (yW Y'.out HB.out);clear HB Zp Y3 Y';have k7:=y8 SY.out 6 rfl;dsimp at k7
 go_wp2_with fail
 clear k7;obtain⟨W8,Eg⟩:=Z8 (wr);subst Eg
 go_loopg [89] tn (fun gn i wr=>∃j:Nat,j<=tn/\gn=tn-j/\i= .int .i64 j/\Hid (Below W8.heap.size W8 wr))
 case atStart=>exact⟨0,by omega,by omega,by go_num,Z' Z6⟩
 obtain⟨j,hj,rfl,rfl,HB⟩:=hrel;have Pd:=Z7 Um HB.out;by_cases ZX:j<tn
 ·skip
  obtain⟨b1,YR,x,rfl,_,hv,p⟩:=Ss.getC (HX.out.traps.below Pd.out) j ZX;obtain⟨b2,Zf,y,rfl,_,Wj,q⟩:=Ss.getC (HY.out.traps.below Pd.out) j ZX;obtain rfl:x=y:=by rw[hv]at Wj;exact Option.some.inj Wj
  obtain⟨fr,tt,pl,cl⟩:=x;have p0:wr.cell? ⟨b1,YR+j*4,none⟩=some (.int .i64 fr):=p 0 (by omega);have p1:wr.cell? ⟨b1,YR+j*4+1,none⟩=some (.int .i64 tt):=p 1 (by omega);have p2:wr.cell? ⟨b1,YR+j*4+2,none⟩=some (.int .i64 pl):=p 2 (by omega);have p3:wr.cell? ⟨b1,YR+j*4+3,none⟩=some (.string ⟨cl.toArray⟩):=p 3 (by omega);have q0:wr.cell? ⟨b2,Zf+j*4,none⟩=some (.int .i64 fr):=q 0 (by omega);have q1:wr.cell? ⟨b2,Zf+j*4+1,none⟩=some (.int .i64 tt):=q 1 (by omega);have q2:wr.cell? ⟨b2,Zf+j*4+2,none⟩=some (.int .i64 pl):=q 2 (by omega);have q3:wr.cell? ⟨b2,Zf+j*4+3,none⟩=some (.string ⟨cl.toArray⟩):=q 3 (by omega);have k6:=y8 (yW SY.out HB.out) 6 rfl;have j6:=y8 (yW Q2.out HB.out) 6 rfl;dsimp at k6 j6;clear p q hv Wj;have XZ:(j:Int)<tn:=by omega
  go_upto_region 12 with fail
  have Z3:EqW wr.drew wr.drew:=rfl;have l0:=fun u (h:EqW wr.drew u)=>xv h p0
  have m0:=fun u (h:EqW wr.drew u)=>xv h q0
  have l1:=fun u (h:EqW wr.drew u)=>xv h p1
  have m1:=fun u (h:EqW wr.drew u)=>xv h q1
  have l2:=fun u (h:EqW wr.drew u)=>xv h p2
  have m2:=fun u (h:EqW wr.drew u)=>xv h q2
  have l3:=fun u (h:EqW wr.drew u)=>xv h p3
  have m3:=fun u (h:EqW wr.drew u)=>xv h q3
  have n0:=fun u (h:EqW wr.drew u)=>xv h k6
  have n1:=fun u (h:EqW wr.drew u)=>xv h j6
  have Sp:=Z' (fun u o1 o2=>D2b u fr tt pl cl o1 o2);clear p0 q0 p1 q1 p2 q2 p3 q3 k6 j6
  refine ye (EqW wr.drew) (.stir [(0,true),(1,true),(2,true),(3,true),(4,true),(5,true),(6,true),(7,true),(8,true),(9,true),(10,true)]) (by kernel_rfl) (by kernel_rfl) (fun c a d v w h=>by cases d<;>exact h) ?_
  refine yA (EqW wr.drew) (fun y hy=>hy) rfl ?_
  iterate 10
   refine yH fun K hK=>tkX ?_
   go_simp
   try go_bits
   refine hK _ ?_;clear hK K
  refine yH (fun K hK=> ?_);simp only[xy,List.getElem?_toArray,List.getElem?_cons_succ,List.getElem?_cons_zero];rw[if_pos (by rfl)];refine⟨Value.bool false,fun w' Y7=> ?_,?_⟩
  ·exact np (by rfl) (Sp.out w' _ _)
  go_simp;refine hK _ ?_;clear hK K;refine yE (fun u hu=> ?_);obtain rfl:u=wr.drew:=hu;clear l0 m0 l1 m1 l2 m2 l3 m3 n0 n1 Sp Z3
  go_wp2_with fail
  go_roundg (tn-(j+1))
  case measure=>omega
  exact⟨j+1,by omega,rfl,by go_num,Z' HB.out.drew⟩
 obtain rfl:tn=j:=by omega
 have VF:=Z' (yW SY.out HB.out);have Xq:=Z' (yW Q2.out HB.out);clear HB Um SY Q2;have k7:=y8 VF.out 7 rfl;dsimp at k7
 go_wp2_with fail
 clear k7;obtain⟨W9,JX⟩:=Z8 (wr);subst JX
 go_loopg [107] nn (fun gn i wx=>∃j:Nat,j<=nn/\gn=nn-j/\i= .int .i64 j/\Hid (Below W9.heap.size W9 wx))
 case atStart=>exact⟨0,by omega,by omega,by go_num,Z' Z6⟩
 obtain⟨j,hj,rfl,rfl,HB⟩:=hrel;have T':=Z7 Pd HB.out;by_cases ZX:j<nn
 ·obtain⟨b1,YR,x,rfl,_,hv,p⟩:=Ss.getC (HX.out.maps.below T'.out) j ZX;obtain⟨b2,Zf,y,rfl,_,Wj,q⟩:=Ss.getC (HY.out.maps.below T'.out) j ZX;have N0:=eD Ux.out hv Wj;have Tu:=HX.out.each x (List.mem_of_getElem? hv);have N8:=HY.out.each y (List.mem_of_getElem? Wj);have QY:=YY.out x (List.mem_of_getElem? hv);have s1:=Tu.loc.1;have s2:=Tu.stk.1;have s3:=N8.loc.1;have s4:=N8.stk.1;obtain⟨pl,la,ln,lc,loc,sa,sn,sc,stk⟩:=x;obtain⟨pl2,BP,zR,Dm,loc2,BC,Aj,NS,stk2⟩:=y;simp only[UP.p,UP.mk.injEq]at N0;obtain⟨rfl,-,-,-,rfl,-,-,-,rfl⟩:=N0;dsimp only at s1 s2 s3 s4 QY;obtain rfl:ln=zR:=by omega
  obtain rfl:sn=Aj:=by omega
  have UC:=Z' (fun w' (hb:Below w.heap.size w w')=>jV w' la ln lc BP Dm loc (Tu.loc.below hb) (N8.loc.below hb) QY.1);have YF:=Z' (fun w' (hb:Below w.heap.size w w')=>jV w' sa sn sc BC NS stk (Tu.stk.below hb) (N8.stk.below hb) QY.2);have p0:wr.cell? ⟨b1,YR+j*3,none⟩=some (.int .i64 pl):=p 0 (by omega);have p1:wr.cell? ⟨b1,YR+j*3+1,none⟩=some (.slice la ln lc):=p 1 (by omega);have p2:wr.cell? ⟨b1,YR+j*3+2,none⟩=some (.slice sa sn sc):=p 2 (by omega);have q0:wr.cell? ⟨b2,Zf+j*3,none⟩=some (.int .i64 pl):=q 0 (by omega);have q1:wr.cell? ⟨b2,Zf+j*3+1,none⟩=some (.slice BP ln Dm):=q 1 (by omega);have q2:wr.cell? ⟨b2,Zf+j*3+2,none⟩=some (.slice BC sn NS):=q 2 (by omega);have k7:=y8 (yW VF.out HB.out) 7 rfl;have j7:=y8 (yW Xq.out HB.out) 7 rfl;dsimp at k7 j7;clear p q hv Wj s1 s2 s3 s4 QY Tu N8;have XZ:(j:Int)<nn:=by omega
  have ep:(pl !=pl)=false:=by simp
  go_upto_region 18 with fail
  have Z3:Below wr.heap.size wr wr.drew:=Z6.drew;have l0:=fun u (h:Below wr.heap.size wr u)=>yF h p0
  have l1:=fun u (h:Below wr.heap.size wr u)=>yF h p1
  have l2:=fun u (h:Below wr.heap.size wr u)=>yF h p2
  have m0:=fun u (h:Below wr.heap.size wr u)=>yF h q0
  have m1:=fun u (h:Below wr.heap.size wr u)=>yF h q1
  have m2:=fun u (h:Below wr.heap.size wr u)=>yF h q2
  have n0:=fun u (h:Below wr.heap.size wr u)=>yF h k7
  have n1:=fun u (h:Below wr.heap.size wr u)=>yF h j7
  have Eb:=Z' (fun u (h:Below wr.heap.size wr u)=>UC.out u (T'.out.trans (h.mono T'.out.size)));have NY:=Z' (fun u (h:Below wr.heap.size wr u)=>YF.out u (T'.out.trans (h.mono T'.out.size)));clear p0 p1 p2 q0 q1 q2 k7 j7 UC YF
  refine ye (Below wr.heap.size wr) (.stir [(0,true),(1,true),(2,true),(3,true),(4,true),(5,true),(6,true),(7,true),(8,true),(9,true),(10,true),(11,true),(12,true),(13,true),(14,true),(15,true),(16,true),(17,true),(18,true),(19,true),(20,true),(21,true),(22,true),(23,true),(24,true),(25,true),(26,false),(27,true),(28,true),(29,true),(30,true),(31,true),(32,true),(33,true),(34,true),(35,true),(36,true),(37,true),(38,true),(39,true),(40,true),(41,true),(42,false),(43,true),(44,true)]) (by kernel_rfl) (by kernel_rfl) (fun c a d v w h=>by cases d<;>exact h) ?_
  refine yA (Below wr.heap.size wr) (fun y hy=>hy) Z3 ?_
  iterate 26
   refine yH fun K hK=>tkX ?_
   go_simp
   try go_bits
   refine hK _ ?_;clear hK K
  refine yH (fun K hK=> ?_);simp only[xy,List.getElem?_toArray,List.getElem?_cons_succ,List.getElem?_cons_zero];rw[if_pos (by rfl)];apply Exists.intro;refine⟨fun w' Y7=> ?_,?_⟩
  ·go_simp;exact xg.call (Calls.mono ((Eb.out w' Y7)) fun e w'' h=>⟨h.1,(fun Zr=>Y7.trans (Zr.mono Y7.size)) h.2⟩)
  go_simp;refine hK _ ?_;clear hK K
  iterate 15
   refine yH fun K hK=>tkX ?_
   go_simp
   try go_bits
   refine hK _ ?_;clear hK K
  refine yH (fun K hK=> ?_);simp only[xy,List.getElem?_toArray,List.getElem?_cons_succ,List.getElem?_cons_zero];rw[if_pos (by rfl)];apply Exists.intro;refine⟨fun w' Y7=> ?_,?_⟩
  ·go_simp;exact xg.call (Calls.mono ((NY.out w' Y7)) fun e w'' h=>⟨h.1,(fun Zr=>Y7.trans (Zr.mono Y7.size)) h.2⟩)
  go_simp;refine hK _ ?_;clear hK K
  iterate 2
   refine yH fun K hK=>tkX ?_
   go_simp
   try go_bits
   refine hK _ ?_;clear hK K
  refine yE (fun u hu=> ?_);clear l0 l1 l2 m0 m1 m2 n0 n1 Eb NY Z3
  go_wp2_with fail
  go_roundg (nn-(j+1))
  case measure=>omega
  exact⟨j+1,by omega,rfl,by go_num,Z7 HB hu⟩
 obtain rfl:nn=j:=by omega
 go_wp2_with fail
 go_ret;exact⟨rfl,T'.out⟩
inductive LSt:LW->LW->Prop
 |refl (s:LW):LSt s s
 |need {s t:LW} (h:LSt s t) (ok:Bool) (k:Int) (hk:k=0\/k=8\/k=2\/k=9):LSt s (t.need ok k)
 |put {s t:LW} (h:LSt s t) (c:KV) (hc:c.tag≠0):LSt s (t.put c).1
theorem LSt.trans{s t u:LW}(h:LSt s t)(k:LSt t u):LSt s u:=by
 induction k with
 |refl=>exact h
 |need k ok n hn ih=>exact ih.need ok n hn
 |put k c hc ih=>exact ih.put c hc
theorem LSt.pre{s t:LW}(h:LSt s t):s.l<+:t.l:=by
 induction h with
 |refl=>exact List.prefix_refl _
 |need h ok k hk ih=>exact ih
 |put h c hc ih=>exact ih.trans (qh _ c)
theorem E7w{s:LW}{c:KV}(h:(s.put c).1.e=0):s.e=0:=by
 unfold LW.put at h;split at h
 ·exact h
 exact kM h
theorem LSt.e{s t:LW}(h:LSt s t):t.e=0->s.e=0:=by
 induction h with
 |refl=>exact id
 |need h ok k hk ih=>exact fun he=>ih (kM he)
 |put h c hc ih=>exact fun he=>ih (E7w he)
def E8i(e:Int):Prop:=e=0\/e=8\/e=2\/e=9
theorem LSt.pos{s t:LW}(h:LSt s t)(h0:0<s.l.length):0<t.l.length:=Nat.lt_of_lt_of_le h0 h.pre.length_le
theorem LSt.text{s t:LW}(h:LSt s t)(x:List UInt8):LSt s (t.text x).1:=h.put _ (show(1:Int)≠0 by decide)
theorem LSt.need8{s t:LW}(h:LSt s t)(ok:Bool):LSt s (t.need ok 8):=h.need ok 8 (.inr (.inl rfl))
theorem LSt.need2{s t:LW}(h:LSt s t)(ok:Bool):LSt s (t.need ok 2):=h.need ok 2 (.inr (.inr (.inl rfl)))
theorem LSt.need9{s t:LW}(h:LSt s t)(ok:Bool):LSt s (t.need ok 9):=h.need ok 9 (.inr (.inr (.inr rfl)))
theorem LSt.cls{s t:LW}(h:LSt s t)(x:List UInt8)(arr:Bool):LSt s (t.cls x arr).1:=((h.need8 _).text x).put _ (show(7:Int)≠0 by decide)
theorem LSt.member{s t:LW}(h:LSt s t)(x:IN)(tag:Int)(p:List UInt8->Bool)(ht:tag≠0):LSt s (t.member x tag p).1:=by
 unfold LW.member;dsimp only;exact(((((h.need8 _).cls _ _).text _).text _).put _ (show(12:Int)≠0 by decide)).put _ ht
theorem LSt.con{s t:LW}(h:LSt s t)(x:IN):LSt s (t.con x).1:=by
 unfold LW.con;split
 ·exact(h.need8 _).put _ (show(3:Int)≠0 by decide)
 split
 ·exact(h.text _).put _ (show(8:Int)≠0 by decide)
 split
 ·exact h.put _ (show(5:Int)≠0 by decide)
 exact h.need8 _
theorem LSt.wide{s t:LW}(h:LSt s t)(x:IN):LSt s (t.wide x).1:=by
 unfold LW.wide;split
 ·exact(h.need8 _).member _ _ _ (by decide)
 split
 ·exact(h.need8 _).member _ _ _ (by decide)
 exact(h.need8 _).cls _ _
theorem LSt.raw{s t:LW}(h:LSt s t)(p:Nat)(x:IN):LSt s (t.raw p x).1:=by
 unfold LW.raw;split
 ·exact((h.need8 _).con x).need9 _
 split
 ·exact h.wide x
 split
 ·exact h.need8 _
 exact(h.need8 _).need8 _
theorem LSt.raws{s t:LW}(h:LSt s t)(p:Nat)(l:List IN):LSt s (t.raws p l).1:=by
 induction l generalizing t p with
 |nil=>exact h
 |cons x l ih=>
  rw[LW.raws];exact ih (h.raw p x) _
theorem LSt.goes{s t:LW}(h:LSt s t)(l k:List IN):LSt s (t.goes l k):=by
 induction k generalizing t with
 |nil=>exact h
 |cons x k ih=>
  rw[LW.goes];split
  ·exact ih (h.need2 _)
  exact ih h
theorem ik(l:List RW):E8i (xt l).1:=by
 unfold xt;split
 ·exact .inr (.inl rfl)
 split
 ·exact .inr (.inr (.inl rfl))
 split
 ·exact .inr (.inr (.inr rfl))
 exact .inl rfl
theorem LSt.code{s t:LW}(h:LSt s t)(l:List IN):LSt s (t.code l).1:=((h.raws 0 l).goes l l).need _ _ (ik _)
theorem LSt.slot{s t:LW}(h:LSt s t)(x:List UInt8):LSt s (t.slot x).1:=by
 unfold LW.slot;split
 ·exact h
 split
 ·exact h
 split
 ·exact h
 split
 ·exact h
 split
 ·exact h.cls _ _
 exact(h.need8 _).cls _ _
theorem LSt.slots{s t:LW}(h:LSt s t)(l:List (List UInt8)):LSt s (t.slots l).1:=by
 induction l generalizing t with
 |nil=>exact h
 |cons x l ih=>
  rw[LW.slots];exact ih (h.slot x)
theorem LSt.place{s t:LW}(h:LSt s t)(l:List IN)(n most:Int):LSt s (t.place l n most).1:=by
 unfold LW.place;split
 ·exact h.need2 _
 exact h
theorem LSt.trap{s t:LW}(h:LSt s t)(l:List IN)(x:UT):LSt s (t.trap l x).1:=by
 unfold LW.trap;dsimp only;have h3:=((h.place l x.fr (l.length-1)).place l x.tt l.length).place l x.pl (l.length-1);split
 ·exact h3
 exact h3.cls _ _
theorem LSt.traps{s t:LW}(h:LSt s t)(c:List IN)(l:List UT):LSt s (t.traps c l).1:=by
 induction l generalizing t with
 |nil=>exact h
 |cons x l ih=>
  rw[LW.traps];exact ih (h.trap c x)
theorem LSt.map{s t:LW}(h:LSt s t)(l:List IN)(x:UP):LSt s (t.map l x).1:=((h.place l x.pl (l.length-1)).slots _).slots _
theorem LSt.maps{s t:LW}(h:LSt s t)(c:List IN)(l:List UP):LSt s (t.maps c l).1:=by
 induction l generalizing t with
 |nil=>exact h
 |cons x l ih=>
  rw[LW.maps];exact ih (h.map c x)
theorem LSt.method{s t:LW}(h:LSt s t)(m:UM):LSt s (t.method m).1:=by
 unfold LW.method;dsimp only;have h1:=(((h.need8 (yk m.nm&&xY m.ds)).text m.nm).text m.ds).text wJ;split
 ·exact((h1.code _).traps _ _).maps _ _
 exact(((h1.text wH).code _).traps _ _).maps _ _
theorem LSt.methods{s t:LW}(h:LSt s t)(l:List UM):LSt s (t.methods l).1:=by
 induction l generalizing t with
 |nil=>exact h
 |cons x l ih=>
  rw[LW.methods];exact ih (h.method x)
theorem LSt.field{s t:LW}(h:LSt s t)(f:UF):LSt s (t.field f).1:=((h.need8 _).text _).text _
theorem LSt.fields{s t:LW}(h:LSt s t)(l:List UF):LSt s (t.fields l).1:=by
 induction l generalizing t with
 |nil=>exact h
 |cons x l ih=>
  rw[LW.fields];exact ih (h.field x)
theorem LSt.consts1{s t:LW}(h:LSt s t)(l:List IN):LSt s (t.consts1 l):=by
 induction l generalizing t with
 |nil=>exact h
 |cons x l ih=>
  rw[LW.consts1];split
  ·exact ih (h.con x)
  exact ih h
theorem LSt.consts{s t:LW}(h:LSt s t)(l:List UM):LSt s (t.consts l):=by
 induction l generalizing t with
 |nil=>exact h
 |cons x l ih=>
  rw[LW.consts];exact ih (h.consts1 x.code)
structure Pl(P:List KV)(s:LW):Prop where
 l:s.l<+:P
 e:s.e=0
 h:0<s.l.length
 z:kAt P 0=kz
theorem Pl.back{P:List KV}{s t:LW}(h:Pl P t)(hs:LSt s t)(h0:0<s.l.length):Pl P s:=⟨hs.pre.trans h.l,hs.e h.e,h0,h.z⟩
theorem uv{s:LW}{ok:Bool}{k:Int}(h:(s.need ok k).e=0)(hk:k≠0):s.e=0/\ok=true:=(wh hk).1 h
theorem kP{l P:List KV}(h:l<+:P)(i:Nat)(hi:i<l.length):kAt P (i:Int)=l[i]:=by
 have hp:=h.length_le;rw[uZ P i (by omega)];exact(h.getElem hi).symm
theorem sT{P:List KV}{s:LW}{c:KV}(h:Pl P (s.put c).1)(h0:0<s.l.length)(hc:c.tag≠0):
  1<=(s.put c).2/\(s.put c).2<P.length/\kAt P ((s.put c).2:Int)=c:=by
 have key:(s.put c).2<P.length/\kAt P ((s.put c).2:Int)=c:=by
  have hl:=h.l;have ZX:=uY s c;have hp:=hl.length_le;refine⟨by omega,?_⟩;rw[kP hl _ ZX]
  have e:(s.put c).1.l[(s.put c).2]? =some c:=by
   unfold LW.put
   cases hx:vY s.l c with
   |some i=>
    obtain⟨hi,he,_⟩:=List.findIdx?_eq_some_iff_getElem.1 hx;show s.l[i]? =some c;rw[List.getElem?_eq_getElem hi,tb.1 he]
   |none=>
   show(xR s.l c)[s.l.length]? =some c;unfold xR;rw[List.getElem?_append_left (by simp)];simp
  rw[List.getElem?_eq_getElem ZX]at e;exact Option.some.inj e
 refine⟨?_,key⟩
 rcases Nat.eq_zero_or_pos (s.put c).2 with hz|hz
 ·rw[hz]at key;have h1:=key.2;have h2:=h.z;rw[show((0:Nat):Int)=0 from rfl,h2]at h1;exact absurd (by rw[<-h1];rfl) hc
 exact hz
theorem p9{P:List KV}{s:LW}{c:KV}(h:Pl P (s.put c).1)(h0:0<s.l.length)(hc:c.tag≠0):isT P ((s.put c).2:Int) c.tag=true:=by
 obtain⟨h1,h2,h3⟩:=sT h h0 hc;unfold isT;rw[h3];exact decide_eq_true ⟨by omega,by omega,rfl⟩
theorem uu{P:List KV}{s:LW}{t:List UInt8}(h:Pl P (s.text t).1)(h0:0<s.l.length):yN P ((s.text t).2:Int)=t/\isT P ((s.text t).2:Int) 1=true:=by
 have h1:=p9 (c:=⟨1,0,0,0,t⟩) h h0 (show(1:Int)≠0 by decide);have h2:=(sT (c:=⟨1,0,0,0,t⟩) h h0 (show(1:Int)≠0 by decide)).2.2;refine⟨?_,h1⟩;unfold yN;rw[show isT P ((s.text t).2:Int) 1=true from h1,if_pos rfl];show(kAt P ((s.put ⟨1,0,0,0,t⟩).2:Int)).s=t;rw[h2]
theorem tB{P:List KV}{s:LW}{t:List UInt8}{arr:Bool}(h:Pl P (s.cls t arr).1)(h0:0<s.l.length):yQ P ((s.cls t arr).2:Int)=(t,true)/\(classB t||(arr&&x6 t))=true:=by
 obtain⟨s1,Yd⟩:=Z8 (s.need (classB t||(arr&&x6 t)) 8);obtain⟨r,hr⟩:=Z8 (s1.text t);have hm:s.cls t arr=r.1.put ⟨7,(r.2:Nat),0,0,[]⟩:=by subst hr Yd;rfl
 rw[hm]at h⊢;have k1:0<s1.l.length:=by rw[Yd];exact h0
 have kr:0<r.1.l.length:=by rw[hr];exact((LSt.refl s1).text t).pos k1
 have hR:Pl P r.1:=h.back ((LSt.refl r.1).put _ (show(7:Int)≠0 by decide)) kr;have hS:Pl P s1:=hR.back (by rw[hr];exact(LSt.refl s1).text t) k1;have hb:=(uv (by rw[<-Yd];exact hS.e) (show(8:Int)≠0 by decide)).2;obtain⟨t1,t2⟩:=uu (by rw[<-hr];exact hR) k1;rw[<-hr]at t1 t2;have p1:=p9 h kr (show(7:Int)≠0 by decide);have p2:=(sT h kr (show(7:Int)≠0 by decide)).2.2;refine⟨?_,hb⟩;unfold yQ;rw[show isT P ((r.1.put ⟨7,(r.2:Nat),0,0,[]⟩).2:Int) 7=true from p1,if_pos rfl,p2];show(yN P (r.2:Int),isT P (r.2:Int) 1)=(t,true);rw[t1,t2]
theorem ev{P:List KV}{s:LW}{t:List UInt8}{arr:Bool}(h:Pl P (s.cls t arr).1)(h0:0<s.l.length):1<=(s.cls t arr).2:=by
 have h1:=(tB h h0).1;unfold yQ at h1;split at h1
 ·next h2=>have:=uh h2;omega
 simp at h1
theorem nC{P:List KV}{s:LW}{t:List UInt8}{arr:Bool}(h:Pl P (s.cls t arr).1)(h0:0<s.l.length):aclsB P ((s.cls t arr).2:Int) arr=true:=by
 obtain⟨h1,h2⟩:=tB h h0;unfold aclsB;rw[h1];exact h2
theorem D3u{P:List KV}{s:LW}{x:IN}{tag:Int}{p:List UInt8->Bool}(Ub:tag=9\/tag=10)(h:Pl P (s.member x tag p).1)(h0:0<s.l.length):
  xu P ((s.member x tag p).2:Int) tag=(x.cl,x.nm,x.ds,true)/\yk x.nm=true/\p x.ds=true/\classB x.cl=true:=by
 have Pu:tag≠0:=by omega
 obtain⟨s1,Yd⟩:=Z8 (s.need (yk x.nm&&p x.ds) 8);obtain⟨c,hc⟩:=Z8 (s1.cls x.cl false);obtain⟨n,hn⟩:=Z8 (c.1.text x.nm);obtain⟨d,hd⟩:=Z8 (n.1.text x.ds);obtain⟨b,hb⟩:=Z8 (d.1.put ⟨12,(n.2:Nat),(d.2:Nat),0,[]⟩);have hm:s.member x tag p=b.1.put ⟨tag,(c.2:Nat),(b.2:Nat),0,[]⟩:=by subst hb hd hn hc Yd;rfl
 rw[hm]at h⊢;have k1:0<s1.l.length:=by rw[Yd];exact h0
 have kc:0<c.1.l.length:=by rw[hc];exact((LSt.refl s1).cls x.cl false).pos k1
 have kn:0<n.1.l.length:=by rw[hn];exact((LSt.refl c.1).text x.nm).pos kc
 have kd:0<d.1.l.length:=by rw[hd];exact((LSt.refl n.1).text x.ds).pos kn
 have kb:0<b.1.l.length:=by rw[hb];exact((LSt.refl d.1).put _ (show(12:Int)≠0 by decide)).pos kd
 have hB:Pl P b.1:=h.back ((LSt.refl b.1).put _ Pu) kb;have hD:Pl P d.1:=hB.back (by rw[hb];exact(LSt.refl d.1).put _ (show(12:Int)≠0 by decide)) kd;have hN:Pl P n.1:=hD.back (by rw[hd];exact(LSt.refl n.1).text _) kn;have hC:Pl P c.1:=hN.back (by rw[hn];exact(LSt.refl c.1).text _) kc;have hS:Pl P s1:=hC.back (by rw[hc];exact(LSt.refl s1).cls _ _) k1;have XC:=(uv (by rw[<-Yd];exact hS.e) (show(8:Int)≠0 by decide)).2;simp only[Bool.and_eq_true]at XC;obtain⟨c1,c2⟩:=tB (by rw[<-hc];exact hC) k1;obtain⟨n1,n2⟩:=uu (by rw[<-hn];exact hN) kc;obtain⟨d1,d2⟩:=uu (by rw[<-hd];exact hD) kn;rw[<-hc]at c1;rw[<-hn]at n1 n2;rw[<-hd]at d1 d2;have b1:=p9 (s:=d.1) (c:=⟨12,(n.2:Nat),(d.2:Nat),0,[]⟩) (by rw[<-hb];exact hB) kd (show(12:Int)≠0 by decide);have b2:=(sT (s:=d.1) (c:=⟨12,(n.2:Nat),(d.2:Nat),0,[]⟩) (by rw[<-hb];exact hB) kd (show(12:Int)≠0 by decide)).2.2;rw[<-hb]at b1 b2;have p1:=p9 h kb Pu;have p2:=(sT h kb Pu).2.2;refine⟨?_,XC.1,XC.2,by simpa using c2⟩;unfold xu;rw[p2];dsimp only;rw[b2];dsimp only;rw[if_pos ⟨Ub,p1,b1,by rw[c1],n2,d2⟩,c1,n1,d1]
theorem E4y{P:List KV}{s:LW}{x:IN}(hx:x.cl=[]/\x.nm=[]/\x.m=0)(h:Pl P (s.con x).1)(h0:0<s.l.length)(r:RW)(hr:r.op=x.op):xG P (yL r) (s.con x).2=x/\xj x=true:=by
 obtain⟨op,n,m,cl,nm,ds,tx⟩:=x;obtain⟨p,o,a,b⟩:=r;dsimp only at hx hr;obtain⟨rfl,rfl,rfl⟩:=hx;subst hr;unfold LW.con at h⊢;dsimp only at h⊢;by_cases h1:ds=[73]/\o=18/\tx=[]
 ·rw[if_pos h1]at h⊢;obtain⟨rfl,rfl,rfl⟩:=h1;have p2:=(sT h h0 (show(3:Int)≠0 by decide)).2.2;unfold xG;rw[p2];exact⟨rfl,rfl⟩
 rw[if_neg h1]at h⊢;by_cases h2:ds=[83]/\o=18/\n=0
 ·rw[if_pos h2]at h⊢;obtain⟨rfl,rfl,rfl⟩:=h2;obtain⟨t,ht⟩:=Z8 (s.text tx);rw[<-ht]at h⊢;have kt:0<t.1.l.length:=by rw[ht];exact((LSt.refl s).text tx).pos h0
  have hT:Pl P t.1:=h.back ((LSt.refl t.1).put _ (show(8:Int)≠0 by decide)) kt;obtain⟨t1,t2⟩:=uu (by rw[<-ht];exact hT) h0;rw[<-ht]at t1 t2;have p2:=(sT h kt (show(8:Int)≠0 by decide)).2.2;unfold xG;rw[p2];dsimp only;rw[t1];exact⟨rfl,rfl⟩
 rw[if_neg h2]at h⊢;by_cases h3:ds=[74]/\o=20/\tx=[]
 ·rw[if_pos h3]at h⊢;obtain⟨rfl,rfl,rfl⟩:=h3;have p2:=(sT h h0 (show(5:Int)≠0 by decide)).2.2;unfold xG;rw[p2];exact⟨rfl,rfl⟩
 rw[if_neg h3]at h;have:=(uv h.e (show(8:Int)≠0 by decide)).2
 cases this
theorem eZ:∀k:Fin 256,yX k.val=5->k.val=18:=by decide
theorem ip{n:Int}(h:vu n=true):vP n=n:=by
 unfold vu at h;have:=of_decide_eq_true h;unfold vP;omega
structure qX(P:List KV)(x:IN)(r:RW)(p:Nat):Prop where
 pos:r.pos=(p:Nat)
 op:r.op=x.op
 c:ww P r=true
 v:yX x.op≠7->∀L,xT P L r=x
 b:yX x.op=7->x={yL r with n:=x.n}
 f0:yX x.op≠0
theorem eL{P:List KV}{s:LW}{x:IN}{tag:Int}{p:List UInt8->Bool}(Ub:tag=9\/tag=10)(h:Pl P ((s.need (xx x) 8).member x tag p).1)(h0:0<s.l.length)(q:Int):
  vi P (yL ⟨q,x.op,(((s.need (xx x) 8).member x tag p).2:Nat),0⟩) (((s.need (xx x) 8).member x tag p).2:Nat) tag=x/\vJ p P (((s.need (xx x) 8).member x tag p).2:Nat) tag=true:=by
 have k0:0<(s.need (xx x) 8).l.length:=h0;have hS:Pl P (s.need (xx x) 8):=h.back ((LSt.refl _).member x tag p (by omega)) k0;have hb:=(uv hS.e (show(8:Int)≠0 by decide)).2;unfold xx at hb;obtain⟨b1,b2,b3⟩:=of_decide_eq_true hb;obtain⟨m1,m2,m3,m4⟩:=D3u Ub h k0;obtain⟨op,n,m,cl,nm,ds,tx⟩:=x;dsimp only at b1 b2 b3;subst b1 b2 b3;refine⟨?_,?_⟩
 ·unfold vi;rw[m1];rfl
 unfold vJ;rw[m1];dsimp only at m2 m3 m4⊢;rw[m2,m3,m4];rfl
theorem E7a{P:List KV}{s:LW}{x:IN}{p:Nat}(Zx:x.op<256)(h:Pl P (s.raw p x).1)(h0:0<s.l.length):qX P x (s.raw p x).2 p:=by
 unfold LW.raw at h⊢;by_cases h1:x.op=18\/x.op=20
 ·rw[if_pos h1]at h⊢;dsimp only at h⊢;obtain⟨c,hc⟩:∃c,c=(s.need (decide (x.cl=[]/\x.nm=[]/\x.m=0)) 8).con x:=⟨_,rfl⟩;rw[<-hc]at h⊢;have k0:0<(s.need (decide (x.cl=[]/\x.nm=[]/\x.m=0)) 8).l.length:=h0;have kc:0<c.1.l.length:=by rw[hc];exact((LSt.refl _).con x).pos k0
  have hC:Pl P c.1:=h.back ((LSt.refl _).need9 _) kc;have hS:Pl P (s.need (decide (x.cl=[]/\x.nm=[]/\x.m=0)) 8):=hC.back (by rw[hc];exact(LSt.refl _).con x) k0;have hb:=(uv hS.e (show(8:Int)≠0 by decide)).2;obtain⟨q1,q2⟩:=E4y (of_decide_eq_true hb) (by rw[<-hc];exact hC) k0 ⟨p,x.op,(c.2:Nat),0⟩ rfl;rw[<-hc]at q1
  have hv:∀L,xT P L ⟨p,x.op,(c.2:Nat),0⟩=x:=by
   intro L;unfold xT;dsimp only
   rcases h1 with h1|h1
   ·rw[h1,if_neg (by decide),if_neg (by decide),if_pos (by decide),<-h1];exact q1
   rw[h1,if_neg (by decide),if_neg (by decide),if_neg (by decide),if_pos (by decide),if_pos (by decide),<-h1];exact q1
  have SH:ww P ⟨p,x.op,(c.2:Nat),0⟩=true:=by
   unfold ww;dsimp only;rw[show((c.2:Nat):Int).toNat=c.2 from Int.toNat_natCast _,q1]
   rcases h1 with h1|h1
   ·rw[h1,if_neg (by decide),if_neg (by decide),if_pos (by decide)];exact q2
   rw[h1,if_neg (by decide),if_neg (by decide),if_neg (by decide),if_pos (by decide),if_pos (by decide)];exact q2
  refine⟨rfl,rfl,SH,fun _=>hv,fun h7=> ?_,fun hz=> ?_⟩
  ·exact absurd h7 (by rcases h1 with h1|h1<;>rw[h1]<;>decide)
  exact absurd hz (by rcases h1 with h1|h1<;>rw[h1]<;>decide)
 rw[if_neg h1]at h⊢;have NC:x.op≠18:=fun e=>h1 (.inl e)
 have Qi:x.op≠20:=fun e=>h1 (.inr e)
 by_cases h6:yX x.op=6
 ·rw[if_pos h6]at h⊢;unfold LW.wide at h⊢;by_cases hm:wK x.op=true
  ·simp only[if_pos hm]at h⊢;obtain⟨m1,m2⟩:=eL (.inl rfl) h h0 (p:Nat);refine⟨rfl,rfl,?_,fun _ L=> ?_,fun h7=>absurd h7 (by rw[h6];decide),by rw[h6];decide⟩
   ·unfold ww;dsimp only;rw[h6,if_neg (by decide),if_neg (by decide),if_neg (by decide),if_pos rfl,if_neg Qi,if_pos hm];exact m2
   unfold xT;dsimp only;rw[h6,if_neg (by decide),if_neg (by decide),if_neg (by decide),if_pos rfl,if_neg Qi,if_pos hm];exact m1
  simp only[if_neg hm]at h⊢;by_cases hv:vB x.op=true
  ·simp only[if_pos hv]at h⊢;obtain⟨m1,m2⟩:=eL (.inr rfl) h h0 (p:Nat);refine⟨rfl,rfl,?_,fun _ L=> ?_,fun h7=>absurd h7 (by rw[h6];decide),by rw[h6];decide⟩
   ·unfold ww;dsimp only;rw[h6,if_neg (by decide),if_neg (by decide),if_neg (by decide),if_pos rfl,if_neg Qi,if_neg hm,if_pos hv];exact m2
   unfold xT;dsimp only;rw[h6,if_neg (by decide),if_neg (by decide),if_neg (by decide),if_pos rfl,if_neg Qi,if_neg hm,if_pos hv];exact m1
  simp only[if_neg hv]at h⊢;have k0:0<(s.need (tQ x) 8).l.length:=h0;have hS:Pl P (s.need (tQ x) 8):=h.back ((LSt.refl _).cls _ _) k0;have hb:=(uv hS.e (show(8:Int)≠0 by decide)).2;unfold tQ at hb;obtain⟨b1,b2,b3,b4,b5⟩:=of_decide_eq_true hb;have c1:=(tB h k0).1;have c2:=nC h k0;refine⟨rfl,rfl,?_,fun _ L=> ?_,fun h7=>absurd h7 (by rw[h6];decide),by rw[h6];decide⟩
  ·unfold ww;dsimp only;rw[h6,if_neg (by decide),if_neg (by decide),if_neg (by decide),if_pos rfl,if_neg Qi,if_neg hm,if_neg hv];exact c2
  unfold xT;dsimp only;rw[h6,if_neg (by decide),if_neg (by decide),if_neg (by decide),if_pos rfl,if_neg Qi,if_neg hm,if_neg hv,c1];obtain⟨op,n,m,cl,nm,ds,tx⟩:=x;dsimp only at b1 b2 b3 b4 b5;subst b1 b2 b3 b4 b5;rfl
 rw[if_neg h6]at h⊢;by_cases hz:yX x.op=0
 ·rw[if_pos hz]at h;have:=(uv h.e (show(8:Int)≠0 by decide)).2
  cases this
 rw[if_neg hz]at h⊢;unfold LW.small at h⊢;dsimp only at h⊢;have hq:=uv h.e (show(8:Int)≠0 by decide);have hb:=(uv hq.1 (show(8:Int)≠0 by decide)).2;have hw:=ip hq.2;unfold sR at hb;obtain⟨b1,b2,b3,b4,b5⟩:=of_decide_eq_true hb;have h5:yX x.op≠5:=fun e=>NC (eZ ⟨x.op,Zx⟩ e)
 rw[hw];clear h hq hb hw;obtain⟨op,n,m,cl,nm,ds,tx⟩:=x;dsimp only at*;subst b2 b3 b4 b5;refine⟨rfl,rfl,?_,fun h7 L=> ?_,fun h7=> ?_,hz⟩
 ·unfold ww;dsimp only;split
  ·rfl
  split
  ·rfl
  simp only[if_neg h5,if_neg h6]
 ·unfold xT;dsimp only;rw[if_neg h7];by_cases h8:yX op=8
  ·rw[if_pos h8];rfl
  rw[if_neg h8,if_neg h5,if_neg h6]
  rcases b1 with rfl|b1
  ·rfl
  exact absurd b1 h8
 rcases b1 with rfl|b1
 ·rfl
 rw[b1]at h7
 cases h7
theorem hJ(s:LW)(p:Nat)(l:List IN):(s.raws p l).2.length=l.length:=by
 induction l generalizing s p with
 |nil=>rfl
 |cons x l ih=>rw[LW.raws,List.length_cons,List.length_cons,ih]
theorem D3t(x:IN)(l:List IN)(k:Nat):yx (x::l) (k+1)=vH x+yx l k:=by
 unfold yx;simp
theorem mV(l:List IN):yx l 0=0:=by
 unfold yx;simp
theorem pq(l:List IN)(k:Nat)(x:IN)(h:l[k]? =some x):yx l (k+1)=yx l k+vH x:=by
 obtain⟨hk,he⟩:=Z4 h;unfold yx;rw[List.take_succ_eq_append_getElem hk,he];simp
theorem kL{l:List IN}(hs:∀x∈l,1<=vH x):∀(d i:Nat),i+d+1<=l.length->yx l i<yx l (i+d+1)
 |0,i,h=>by
  rw[pq l (i+0) l[i] (by rw[Nat.add_zero];exact List.getElem?_eq_getElem (by omega))];have:=hs l[i] (List.getElem_mem (by omega));rw[Nat.add_zero];omega
 |d+1,i,h=>by
  have h1:=kL hs d i (by omega);rw[show i+(d+1)+1=(i+d+1)+1 by omega,pq l (i+d+1) l[i+d+1] (List.getElem?_eq_getElem (by omega))];omega
theorem fZ{l:List IN}(hs:∀x∈l,1<=vH x){i j:Nat}(hi:i<=l.length)(hj:j<=l.length)(h:yx l i=yx l j):i=j:=by
 rcases Nat.lt_trichotomy i j with h1|h1|h1
 ·have:=kL hs (j-i-1) i (by omega);rw[show i+(j-i-1)+1=j by omega]at this;omega
 ·exact h1
 have:=kL hs (i-j-1) j (by omega);rw[show j+(i-j-1)+1=i by omega]at this;omega
theorem mg{P:List KV}:∀(l:List IN) (s:LW) (p:Nat),(∀x∈l,x.op<256)->Pl P (s.raws p l).1->0<s.l.length->∀(k:Nat) (x:IN),l[k]? =some x->∃r,(s.raws p l).2[k]? =some r/\qX P x r (p+yx l k)
 |[],s,p,_,_,_,k,x,hx=>by simp at hx
 |y::l,s,p,Zx,h,h0,k,x,hx=>by
  rw[LW.raws]at h⊢;dsimp only at h⊢;have kr:0<(s.raw p y).1.l.length:=((LSt.refl s).raw p y).pos h0
  cases k with
  |zero=>
   simp at hx;subst hx;have hR:Pl P (s.raw p y).1:=h.back ((LSt.refl _).raws _ l) kr;refine⟨_,rfl,?_⟩;rw[mV];exact E7a (Zx y List.mem_cons_self) hR h0
  |succ k=>
  rw[List.getElem?_cons_succ]at hx;obtain⟨r,hr,ho⟩:=mg l (s.raw p y).1 (p+vH y) (fun z hz=>Zx z (List.mem_cons_of_mem _ hz)) h kr k x hx;refine⟨r,by rw[List.getElem?_cons_succ];exact hr,?_⟩;rw[D3t,<-Nat.add_assoc];exact ho
theorem fG(l:List IN):∀(k:List IN) (s:LW),(s.goes l k).e=0->s.e=0/\∀x∈k,yX x.op=7->inB l x.n=true
 |[],s,h=>⟨h,fun x hx=>by cases hx⟩
 |y::k,s,h=>by
  rw[LW.goes]at h;obtain⟨h1,h2⟩:=fG l k _ h;by_cases h7:yX y.op=7
  ·rw[if_pos h7]at h1;obtain⟨h3,h4⟩:=uv h1 (show(2:Int)≠0 by decide);refine⟨h3,fun x hx L9=> ?_⟩
   rcases List.mem_cons.1 hx with rfl|hx
   ·exact h4
   exact h2 x hx L9
  rw[if_neg h7]at h1;refine⟨h1,fun x hx L9=> ?_⟩
  rcases List.mem_cons.1 hx with rfl|hx
  ·exact absurd L9 h7
  exact h2 x hx L9
structure tN(l:List IN)(L:List RW):Prop where
 n:L.length=l.length
 p:∀(k:Nat) r,L[k]? =some r->r.pos=((yx l k:Nat):Int)
 s:∀x∈l,1<=vH x
theorem tN.ix{l:List IN}{L:List RW}(h:tN l L){n:Nat}(hn:n<l.length):wF L ((yx l n:Nat):Int)=some n:=by
 have hl:=h.n
 have h1:=kJ ((yx l n:Nat):Int) L 0 n none L[n] (List.getElem?_eq_getElem (by omega)) (h.p n _ (List.getElem?_eq_getElem (by omega))) (fun j r' hj WW=>by
  have YP:=(Z4 WW).1;rw[h.p j r' WW];intro e;have:=fZ h.s (i:=j) (j:=n) (by omega) (by omega) (by omega);omega)
 rw[Nat.zero_add]at h1;exact h1
abbrev Mn:=Int×Int×List (List UInt8)
def xE(L:List KV)(c:KV):Mn:=
 (c.tag,c.n,if c.tag=1 then [c.s]else if c.tag=7\/c.tag=8 then [yN L c.a]else if c.tag=12 then [yN L c.a,yN L c.b]
  else if c.tag=9\/c.tag=10 then [(yQ L c.a).1,yN L (kAt L c.b).a,yN L (kAt L c.b).b]else [])
def tR(L:List KV)(c:KV):Prop:=
 (c.tag=1/\(wn c.s).isSome=true/\c.s.length<=65535)\/c.tag=3\/c.tag=5\/((c.tag=7\/c.tag=8)/\isT L c.a 1=true)\/
  (c.tag=12/\isT L c.a 1=true/\isT L c.b 1=true)\/((c.tag=9\/c.tag=10)/\isT L c.a 7=true/\isT L c.b 12=true)
structure vs(L:List KV):Prop where
 pos:0<L.length
 z:kAt L 0=kz
 pad:∀i:Nat,i<L.length->(kAt L i).tag=0->i=0\/(kAt L ((i:Int) -1)).tag=5
 nxt:∀i:Nat,i<L.length->(kAt L i).tag=5->i+1<L.length/\(kAt L ((i:Int)+1)).tag=0
 bare:∀i:Nat,i<L.length->yM (kAt L i)=true
 lead:∀i:Nat,i<L.length->(kAt L i).tag≠0->tR L (kAt L i)
 twin:∀i j:Nat,i<L.length->j<L.length->(kAt L i).tag≠0->kAt L i=kAt L j->i=j
theorem ut{c:KV}(h:yM c=true):(c.tag=1\/c.s=[])/\((c.tag=5\/c.n=0)\/(c.tag=3/\-2147483648<=c.n/\c.n<=2147483647))/\((c.tag=9\/c.tag=10\/c.tag=12)\/c.b=0)/\((c.tag=9\/c.tag=10\/c.tag=12\/c.tag=7\/c.tag=8)\/c.a=0):=by
 unfold yM at h;simp only[Bool.and_eq_true,Bool.or_eq_true,decide_eq_true_eq,List.isEmpty_iff]at h;obtain⟨⟨⟨b1,b2⟩,b3⟩,b4⟩:=h;exact⟨b1,b2,b3,b4⟩
theorem tU{L:List KV}{a t:Int}(h:isT L a t=true):∃k:Nat,a=(k:Int)/\k<L.length/\(kAt L k).tag=t:=by
 have h1:=of_decide_eq_true h;refine⟨a.toNat,by omega,by omega,?_⟩;rw[show((a.toNat:Nat):Int)=a by omega];exact h1.2.2
theorem r9{c d:KV}(h1:c.tag=d.tag)(h2:c.a=d.a)(h3:c.b=d.b)(h4:c.n=d.n)(h5:c.s=d.s):c=d:=by
 obtain⟨a1,a2,a3,a4,a5⟩:=c;obtain⟨b1,b2,b3,b4,b5⟩:=d;simp only at h1 h2 h3 h4 h5;subst h1 h2 h3 h4 h5;rfl
theorem sC{L:List KV}{a:Int}(h:isT L a 1=true):yN L a=(kAt L a).s:=by
 unfold yN;rw[h,if_pos rfl]
theorem sE{L:List KV}{a:Int}(h:isT L a 7=true):(yQ L a).1=yN L (kAt L a).a:=by
 unfold yQ;rw[h,if_pos rfl]
theorem vs.t1{L:List KV}(h:vs L){a b:Int}(ha:isT L a 1=true)(hb:isT L b 1=true)(he:yN L a=yN L b):a=b:=by
 rw[sC ha,sC hb]at he;obtain⟨i,rfl,hi,ti⟩:=tU ha;obtain⟨j,rfl,hj,tj⟩:=tU hb;obtain⟨p1,p2,p3,p4⟩:=ut (h.bare i hi);obtain⟨q1,q2,q3,q4⟩:=ut (h.bare j hj);rw[h.twin i j hi hj (by omega) (r9 (by omega) (by omega) (by omega) (by omega) he)]
theorem vs.t7{L:List KV}(h:vs L){a b:Int}(ha:isT L a 7=true)(hb:isT L b 7=true)(he:(yQ L a).1=(yQ L b).1):a=b:=by
 rw[sE ha,sE hb]at he;obtain⟨i,rfl,hi,ti⟩:=tU ha;obtain⟨j,rfl,hj,tj⟩:=tU hb
 have l1:isT L (kAt L i).a 1=true:=by
  rcases h.lead i hi (by omega)with h|h|h|h|h|h
  ·omega
  ·omega
  ·omega
  ·exact h.2
  ·omega
  omega
 have l2:isT L (kAt L j).a 1=true:=by
  rcases h.lead j hj (by omega)with h|h|h|h|h|h
  ·omega
  ·omega
  ·omega
  ·exact h.2
  ·omega
  omega
 have e1:=h.t1 l1 l2 he;obtain⟨p1,p2,p3,p4⟩:=ut (h.bare i hi);obtain⟨q1,q2,q3,q4⟩:=ut (h.bare j hj)
 have s1:(kAt L i).s=[]:=by rcases p1 with h|h;omega;exact h
 have s2:(kAt L j).s=[]:=by rcases q1 with h|h;omega;exact h
 rw[h.twin i j hi hj (by omega) (r9 (by omega) e1 (by omega) (by omega) (by rw[s1,s2]))]
theorem vs.l12{L:List KV}(h:vs L){a:Int}(ha:isT L a 12=true):isT L (kAt L a).a 1=true/\isT L (kAt L a).b 1=true:=by
 obtain⟨i,rfl,hi,ti⟩:=tU ha
 rcases h.lead i hi (by omega)with h|h|h|h|h|h
 ·omega
 ·omega
 ·omega
 ·omega
 ·exact h.2
 omega
theorem vs.t12{L:List KV}(h:vs L){a b:Int}(ha:isT L a 12=true)(hb:isT L b 12=true)(he:yN L (kAt L a).a=yN L (kAt L b).a)(hf:yN L (kAt L a).b=yN L (kAt L b).b):a=b:=by
 have e1:=h.t1 (h.l12 ha).1 (h.l12 hb).1 he;have e2:=h.t1 (h.l12 ha).2 (h.l12 hb).2 hf;obtain⟨i,rfl,hi,ti⟩:=tU ha;obtain⟨j,rfl,hj,tj⟩:=tU hb;obtain⟨p1,p2,p3,p4⟩:=ut (h.bare i hi);obtain⟨q1,q2,q3,q4⟩:=ut (h.bare j hj)
 have s1:(kAt L i).s=[]:=by rcases p1 with h|h;omega;exact h
 have s2:(kAt L j).s=[]:=by rcases q1 with h|h;omega;exact h
 rw[h.twin i j hi hj (by omega) (r9 (by omega) e1 e2 (by omega) (by rw[s1,s2]))]
theorem vs.one{L:List KV}(h:vs L){c d:KV}(bc:yM c=true)(bd:yM d=true)(lc:tR L c)(ld:tR L d)(e:xE L c=xE L d):c=d:=by
 unfold xE at e;simp only[Prod.mk.injEq]at e;obtain⟨et,en,es⟩:=e;obtain⟨p1,p2,p3,p4⟩:=ut bc;obtain⟨q1,q2,q3,q4⟩:=ut bd;rw[<-et]at es
 have sx:c.tag≠1->c.s=d.s:=fun hn=>by
  have s1:c.s=[]:=by rcases p1 with h|h;omega;exact h
  have s2:d.s=[]:=by rcases q1 with h|h;omega;exact h
  rw[s1,s2]
 unfold tR at lc ld;by_cases t1:c.tag=1
 ·rw[if_pos t1,if_pos t1]at es;exact r9 et (by omega) (by omega) en (by simpa using es)
 by_cases t7:c.tag=7\/c.tag=8
 ·rw[if_neg t1,if_neg t1,if_pos t7,if_pos t7]at es;simp only[List.cons.injEq,and_true]at es
  have l1:isT L c.a 1=true:=by
   rcases lc with h|h|h|h|h|h
   ·omega
   ·omega
   ·omega
   ·exact h.2
   ·omega
   omega
  have l2:isT L d.a 1=true:=by
   rcases ld with h|h|h|h|h|h
   ·omega
   ·omega
   ·omega
   ·exact h.2
   ·omega
   omega
  exact r9 et (h.t1 l1 l2 es) (by omega) en (sx t1)
 by_cases t12:c.tag=12
 ·rw[if_neg t1,if_neg t1,if_neg t7,if_neg t7,if_pos t12,if_pos t12]at es;simp only[List.cons.injEq,and_true]at es
  have l1:isT L c.a 1=true/\isT L c.b 1=true:=by
   rcases lc with h|h|h|h|h|h
   ·omega
   ·omega
   ·omega
   ·omega
   ·exact h.2
   omega
  have l2:isT L d.a 1=true/\isT L d.b 1=true:=by
   rcases ld with h|h|h|h|h|h
   ·omega
   ·omega
   ·omega
   ·omega
   ·exact h.2
   omega
  exact r9 et (h.t1 l1.1 l2.1 es.1) (h.t1 l1.2 l2.2 es.2) en (sx t1)
 by_cases t9:c.tag=9\/c.tag=10
 ·rw[if_neg t1,if_neg t1,if_neg t7,if_neg t7,if_neg t12,if_neg t12,if_pos t9,if_pos t9]at es;simp only[List.cons.injEq,and_true]at es
  have l1:isT L c.a 7=true/\isT L c.b 12=true:=by
   rcases lc with h|h|h|h|h|h
   ·omega
   ·omega
   ·omega
   ·omega
   ·omega
   exact h.2
  have l2:isT L d.a 7=true/\isT L d.b 12=true:=by
   rcases ld with h|h|h|h|h|h
   ·omega
   ·omega
   ·omega
   ·omega
   ·omega
   exact h.2
  exact r9 et (h.t7 l1.1 l2.1 es.1) (h.t12 l1.2 l2.2 es.2.1 es.2.2) en (sx t1)
 exact r9 et (by omega) (by omega) en (sx t1)
end
end Go.Proofs.YtclpkipaehpkdaaGreatDoor
