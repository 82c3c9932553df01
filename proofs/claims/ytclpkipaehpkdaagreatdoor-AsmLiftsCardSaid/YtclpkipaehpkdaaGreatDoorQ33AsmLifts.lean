/- asm: own texts, merged (wip/merge3.py). No condition. -/
import Derived.Test.YtclpkipaehpkdaaGreatDoorQ32AsmLifts
import Derived.Test.YtclpkipaehpkdaaGreatDoorQ14AsmLifts
import Derived.Test.YtclpkipaehpkdaaGreatDoorQ01AsmLifts
set_option linter.unusedVariables false
set_option linter.unusedSimpArgs false
set_option maxRecDepth 100000
set_option maxHeartbeats 64000000
namespace Go.Proofs.YtclpkipaehpkdaaGreatDoor
section
open Go.ChangeShapes Go.WideShapes Go.ChangeAt Go.RowKit Go.Maps
theorem C9g(w:World):B3k (w.alloc (.map #[] 0)) w.heap.size [kz]:=by
 refine⟨_,(World.ownsMap_made w Tryz.prog A6h _).mono (by simp),fun c hc ht z=> ?_⟩
 have:B7r [kz] c=none:=by
  unfold B7r;simp only[List.findIdx?_cons,List.findIdx?_nil,Option.map_none];rw[if_neg (fun h=>ht (by rw[←B0w.1 h];rfl))]
 rw[this];rfl
def BxF(gx go:Nat)(f:UF)(v:Value)(z:World):Prop:=z.heap[gx]? =some (.cells f.cells.toArray 52 (0,0))∧z.cell? ⟨go,3,none⟩=some v
def BxN(gx go:Nat)(m:UM)(v:Value)(z:World):Prop:=z.heap[gx]? =some (.cells m.cells.toArray A0v (0,0))∧z.cell? ⟨go,4,none⟩=some v
def QEl(g:Nat)(e:Int)(w:World):Prop:=w.cell? ⟨g,2,none⟩=some (.int .i64 e)
theorem C7d(x:KF):A2i x.lp=A2i x:=by
 have hm:∀(L:List KV) (m:KM),A2y L m.lp=A2y L m:=fun L m=>by
  have hp:∀(L:List KV) (p:KP),A6f L p.lp=A6f L p:=fun L p=>rfl
  unfold A2y;show(A3d L m.fl m.nm m.ds&&B0t m&&A8z m.lp&&m.traps.all (A5j L)&&(m.maps.map KP.lp).all (A6f L)&&A7s L m.lp)=_
  have h1:A8z m.lp=A8z m:=by unfold A8z KM.lp;simp
  have h2:A7s L m.lp=A7s L m:=by unfold A7s KM.lp;simp
  have h3:(m.maps.map KP.lp).all (A6f L)=m.maps.all (A6f L):=by
   rw[List.all_map];rfl
  rw[h1,h2,h3]
 unfold A2i
 show(A5a x.pool&&clsOk x.pool x.th&&(decide (x.su=0)||clsOk x.pool x.su)&&decide (x.fields.length≤64∧(x.methods.map KM.lp).length≤64)&&x.fields.all (fun d=>A3d x.pool d.fl d.nm d.ds)&&(x.methods.map KM.lp).all (A2y x.pool))=_
 rw[List.length_map,List.all_map];congr 1;exact congrArg _ (funext fun m=>hm x.pool m)
theorem C2c(l:List RW):(A4b l).2.length≤4096:=by
 unfold A4b;split
 ·simp
 ·split
  ·simp
  ·split
   ·simp
   ·next h=>show(A9d l).length≤_;omega
theorem C1q{s:LW}{l:List UM}{y:KM}(h:y∈(s.methods l).2):∃s' m,m∈l∧y=(LW.method s' m).2:=by
 induction l generalizing s with
 |nil=>cases h
 |cons x l ih=>
  rw[LW.methods]at h
  rcases List.mem_cons.1 h with h|h
  ·exact⟨s,x,List.mem_cons_self,h⟩
  ·obtain⟨s',m,hm,he⟩:=ih h;exact⟨s',m,List.mem_cons_of_mem _ hm,he⟩
theorem C7g{s:LW}{l:List UF}{y:KD}(h:y∈(s.fields l).2):∃s' m,m∈l∧y=(LW.field s' m).2:=by
 induction l generalizing s with
 |nil=>cases h
 |cons x l ih=>
  rw[LW.fields]at h
  rcases List.mem_cons.1 h with h|h
  ·exact⟨s,x,List.mem_cons_self,h⟩
  ·obtain⟨s',m,hm,he⟩:=ih h;exact⟨s',m,List.mem_cons_of_mem _ hm,he⟩
theorem D3t{s:LW}{c:List IN}{l:List UP}{y:KP}(h:y∈(s.maps c l).2):∃s' m,m∈l∧y=(LW.map s' c m).2:=by
 induction l generalizing s with
 |nil=>cases h
 |cons x l ih=>
  rw[LW.maps]at h
  rcases List.mem_cons.1 h with h|h
  ·exact⟨s,x,List.mem_cons_self,h⟩
  ·obtain⟨s',m,hm,he⟩:=ih h;exact⟨s',m,List.mem_cons_of_mem _ hm,he⟩
theorem C4f(b:Bool):A4x (A3j b):=by cases b<;>exact⟨by decide,by decide⟩
theorem D7w(u:UU)(hf:u.Fit)(x:KF)(V:World)(hx:x.lp=(B5a u).2)(hr:x.Rd V)(he:(B5a u).1.e=0):x.Fit:=by
 have hg:=C4b u hf;have hpool:x.pool=(B5a u).1.l:=(show x.pool=x.lp.pool from rfl).trans (congrArg KF.pool hx)
 have hflds:x.fields=(B5a u).2.fields:=(show x.fields=x.lp.fields from rfl).trans (congrArg KF.fields hx);have hmths:x.methods.map KM.lp=(B5a u).2.methods:=congrArg KF.methods hx
 have hl:x.pool.length≤1024:=by rw[hpool];exact hg.sz he
 have h1:=hr.pool.1;have h2:=hr.fields.1;have h3:=hr.methods.1;have hfl:x.fields.length=u.fields.length:=by rw[hflds];unfold B5a;dsimp only;rw[B6f]
 have hml:x.methods.length=u.methods.length:=by
  have:=congrArg List.length hmths;rw[List.length_map]at this;rw[this];unfold B5a;dsimp only;rw[B4u]
 have a1:=hf.fields;have a2:=hf.methods;refine⟨by omega,fun i hi=> ?_,by omega,by omega,fun d hd=> ?_,fun m hm=> ?_⟩
 ·rw[A8q x.pool i (by omega)];have:=hg.tx x.pool[i] (by rw[←hpool];exact List.getElem_mem _);exact this
 ·rw[hflds]at hd;have hd':d∈(LW.fields _ u.fields).2:=hd;obtain⟨s',m,_,e⟩:=C7g hd';rw[e];exact C4f m.st
 ·have hm':m.lp∈(B5a u).2.methods:=by rw[←hmths];exact List.mem_map_of_mem hm
  have hm2:m.lp∈(LW.methods _ u.methods).2:=hm';obtain⟨s',m0,hm0,e⟩:=C1q hm2;have hmr:=hr.each m hm;have c1:=hmr.code.1;have c2:=hmr.traps.1;have c3:=hmr.maps.1
  have hf0:=hf.mt m0 hm0;have e1:m.fl=A3j m0.st:=congrArg KM.fl e
  have e2:m.code.length≤4096:=by
   have:m.code=(LW.method s' m0).2.code:=(show m.code=m.lp.code from rfl).trans (congrArg KM.code e);rw[this];exact C2c _
  have e3:m.traps.length=m0.traps.length:=by
   have:m.traps=(LW.method s' m0).2.traps:=(show m.traps=m.lp.traps from rfl).trans (congrArg KM.traps e);rw[this];exact B9p _ _ _
  have hmp:m.maps.map KP.lp=(LW.method s' m0).2.maps:=congrArg KM.maps e
  have e4:m.maps.length=m0.maps.length:=by
   have h9:=congrArg List.length hmp;rw[List.length_map]at h9;rw[h9];exact C5d _ _ _
  have b1:=hf0.traps;have b2:=hf0.maps;refine⟨by rw[e1];exact C4f _,by unfold maxLen;omega,by omega,by omega,fun p hp=> ?_⟩
  have h9:p.lp∈(LW.method s' m0).2.maps:=by rw[←hmp];exact List.mem_map_of_mem hp
  have hp':p.lp∈(LW.maps _ m0.code m0.maps).2:=h9;obtain⟨s2,p0,hp0,e5⟩:=D3t hp';have hpr:=hmr.each p hp;have d1:=hpr.loc.1;have d2:=hpr.stk.1;have hq:=hf0.mp p0 hp0;have b3:=hq.loc
  have b4:=hq.stk
  have e6:p.loc.length=p0.loc.length:=by
   have:p.loc=(LW.map s2 m0.code p0).2.loc:=(show p.loc=p.lp.loc from rfl).trans (congrArg KP.loc e5);rw[this];exact B9d _ _
  have e7:p.stk.length=p0.stk.length:=by
   have:p.stk=(LW.map s2 m0.code p0).2.stk:=(show p.stk=p.lp.stk from rfl).trans (congrArg KP.stk e5);rw[this];exact B9d _ _
  exact⟨by omega,by omega⟩
theorem KF.Ow.rd{x:KF}{V:World}{B:Nat}(h:x.Ow V B)(hp:V.ownsRow B A6h 5 (.slice x.pa x.pn x.pc) x.pn (x.pool.flatMap KV.cells)):x.Rd V:=by
 obtain⟨a0,d0,q0,r0,_⟩:=Ss.ofOwn KV.cells_length (by decide) hp;obtain⟨a1,d1,q1,r1,_⟩:=Ss.ofOwn KD.cells_length (by decide) h.fields
 obtain⟨a2,d2,q2,r2,_⟩:=Ss.ofOwn KM.cells_length (by decide) h.methods
 cases q0
 cases q1
 cases q2
 exact⟨r0,r1,r2,fun m hm=>(h.each m hm).rd⟩
def C4a(u:UU)(w:World)(e:Ending)(w':World):Prop:=
 ∃x:KF,e= .returned (.tuple #[.agg x.cells.toArray,.int .i64 (D3d u)])∧(D3d u=0→x.lp=(B5a u).2∧x.Rd w'∧x.Fit)∧(D3d u≠0→x=⟨none,0,0,[],0,0,none,0,0,[],none,0,0,[]⟩)∧Below w.heap.size w w'
theorem B6k(w:World)(u:UU)(hu:u.Rd w)(hf:u.Fit)(hv:VW w):Calls Tryz.prog 14 #[.agg u.cells.toArray] w (C4a u w):=by
 have hw0:0<w.heap.size:=by
  obtain⟨m,hm⟩:=hv
  rcases Nat.eq_zero_or_pos w.heap.size with h1|h1
  ·exfalso;have:w.heap[0]? =none:=Array.getElem?_eq_none (by omega);simp[World.cell?,this]at hm
  ·exact h1
 have hb5:Below w.heap.size w (((((w.alloc (.cells #[.string ⟨u.nm.toArray⟩,.string ⟨u.su.toArray⟩,.slice u.fa u.fn u.fc,.slice u.ma u.mn u.mc] UnT)).alloc (.cells #[.slice none 0 0,.int .i64 0,.int .i64 0,.slice none 0 0,.slice none 0 0] A4v)).alloc (.cells #[.int .i64 0,.int .i64 0,.int .i64 0,.int .i64 0,.string ⟨#[]⟩] A6h)).alloc (.map #[] 0)).alloc (.cells #[.slice (some ⟨w.heap.size+1+1,0,none⟩) 1 1,.map (some (w.heap.size+1+1+1)),.int .i64 0] B3x)):=(((((Below.refl w.heap.size w).alloc (Nat.le_refl _) _).alloc (by simp) _).alloc (by simp;omega) _).alloc (by simp;omega) _).alloc (by simp;omega) _
 have s2:((w.alloc (.cells #[.string ⟨u.nm.toArray⟩,.string ⟨u.su.toArray⟩,.slice u.fa u.fn u.fc,.slice u.ma u.mn u.mc] UnT)).alloc (.cells #[.slice none 0 0,.int .i64 0,.int .i64 0,.slice none 0 0,.slice none 0 0] A4v)).heap.size=w.heap.size+1+1:=by simp
 have s3:(((w.alloc (.cells #[.string ⟨u.nm.toArray⟩,.string ⟨u.su.toArray⟩,.slice u.fa u.fn u.fc,.slice u.ma u.mn u.mc] UnT)).alloc (.cells #[.slice none 0 0,.int .i64 0,.int .i64 0,.slice none 0 0,.slice none 0 0] A4v)).alloc (.cells #[.int .i64 0,.int .i64 0,.int .i64 0,.int .i64 0,.string ⟨#[]⟩] A6h)).heap.size=w.heap.size+1+1+1:=by simp
 have s4:((((w.alloc (.cells #[.string ⟨u.nm.toArray⟩,.string ⟨u.su.toArray⟩,.slice u.fa u.fn u.fc,.slice u.ma u.mn u.mc] UnT)).alloc (.cells #[.slice none 0 0,.int .i64 0,.int .i64 0,.slice none 0 0,.slice none 0 0] A4v)).alloc (.cells #[.int .i64 0,.int .i64 0,.int .i64 0,.int .i64 0,.string ⟨#[]⟩] A6h)).alloc (.map #[] 0)).heap.size=w.heap.size+1+1+1+1:=by simp
 have hx3:(((((w.alloc (.cells #[.string ⟨u.nm.toArray⟩,.string ⟨u.su.toArray⟩,.slice u.fa u.fn u.fc,.slice u.ma u.mn u.mc] UnT)).alloc (.cells #[.slice none 0 0,.int .i64 0,.int .i64 0,.slice none 0 0,.slice none 0 0] A4v)).alloc (.cells #[.int .i64 0,.int .i64 0,.int .i64 0,.int .i64 0,.string ⟨#[]⟩] A6h)).alloc (.map #[] 0)).alloc (.cells #[.slice (some ⟨w.heap.size+1+1,0,none⟩) 1 1,.map (some (w.heap.size+1+1+1)),.int .i64 0] B3x)).heap[w.heap.size+1+1]? =some (.cells #[.int .i64 0,.int .i64 0,.int .i64 0,.int .i64 0,.string ⟨#[]⟩] A6h (0,0)):=by
  rw[Below.heap_alloc _ _ _ (by rw[s4];omega),Below.heap_alloc _ _ _ (by rw[s3];omega)]
  have h9:=heap_alloc_last ((w.alloc (.cells #[.string ⟨u.nm.toArray⟩,.string ⟨u.su.toArray⟩,.slice u.fa u.fn u.fc,.slice u.ma u.mn u.mc] UnT)).alloc (.cells #[.slice none 0 0,.int .i64 0,.int .i64 0,.slice none 0 0,.slice none 0 0] A4v)) (.cells #[.int .i64 0,.int .i64 0,.int .i64 0,.int .i64 0,.string ⟨#[]⟩] A6h)
  rw[s2]at h9;exact h9
 have hxl:(((((w.alloc (.cells #[.string ⟨u.nm.toArray⟩,.string ⟨u.su.toArray⟩,.slice u.fa u.fn u.fc,.slice u.ma u.mn u.mc] UnT)).alloc (.cells #[.slice none 0 0,.int .i64 0,.int .i64 0,.slice none 0 0,.slice none 0 0] A4v)).alloc (.cells #[.int .i64 0,.int .i64 0,.int .i64 0,.int .i64 0,.string ⟨#[]⟩] A6h)).alloc (.map #[] 0)).alloc (.cells #[.slice (some ⟨w.heap.size+1+1,0,none⟩) 1 1,.map (some (w.heap.size+1+1+1)),.int .i64 0] B3x)).heap[w.heap.size+1+1+1+1]? =some (.cells #[.slice (some ⟨w.heap.size+1+1,0,none⟩) 1 1,.map (some (w.heap.size+1+1+1)),.int .i64 0] B3x (0,0)):=by
  have h9:=heap_alloc_last ((((w.alloc (.cells #[.string ⟨u.nm.toArray⟩,.string ⟨u.su.toArray⟩,.slice u.fa u.fn u.fc,.slice u.ma u.mn u.mc] UnT)).alloc (.cells #[.slice none 0 0,.int .i64 0,.int .i64 0,.slice none 0 0,.slice none 0 0] A4v)).alloc (.cells #[.int .i64 0,.int .i64 0,.int .i64 0,.int .i64 0,.string ⟨#[]⟩] A6h)).alloc (.map #[] 0)) (.cells #[.slice (some ⟨w.heap.size+1+1,0,none⟩) 1 1,.map (some (w.heap.size+1+1+1)),.int .i64 0] B3x)
  rw[s4]at h9;exact h9
 have hmk:B3k (((((w.alloc (.cells #[.string ⟨u.nm.toArray⟩,.string ⟨u.su.toArray⟩,.slice u.fa u.fn u.fc,.slice u.ma u.mn u.mc] UnT)).alloc (.cells #[.slice none 0 0,.int .i64 0,.int .i64 0,.slice none 0 0,.slice none 0 0] A4v)).alloc (.cells #[.int .i64 0,.int .i64 0,.int .i64 0,.int .i64 0,.string ⟨#[]⟩] A6h)).alloc (.map #[] 0)).alloc (.cells #[.slice (some ⟨w.heap.size+1+1,0,none⟩) 1 1,.map (some (w.heap.size+1+1+1)),.int .i64 0] B3x)) (w.heap.size+1+1+1) [kz]:=by
  have h9:=C9g (((w.alloc (.cells #[.string ⟨u.nm.toArray⟩,.string ⟨u.su.toArray⟩,.slice u.fa u.fn u.fc,.slice u.ma u.mn u.mc] UnT)).alloc (.cells #[.slice none 0 0,.int .i64 0,.int .i64 0,.slice none 0 0,.slice none 0 0] A4v)).alloc (.cells #[.int .i64 0,.int .i64 0,.int .i64 0,.int .i64 0,.string ⟨#[]⟩] A6h))
  rw[s3]at h9;exact h9.below (A0e _ _)
 have HH0:=Lib.hid (show FlH w (((((w.alloc (.cells #[.string ⟨u.nm.toArray⟩,.string ⟨u.su.toArray⟩,.slice u.fa u.fn u.fc,.slice u.ma u.mn u.mc] UnT)).alloc (.cells #[.slice none 0 0,.int .i64 0,.int .i64 0,.slice none 0 0,.slice none 0 0] A4v)).alloc (.cells #[.int .i64 0,.int .i64 0,.int .i64 0,.int .i64 0,.string ⟨#[]⟩] A6h)).alloc (.map #[] 0)).alloc (.cells #[.slice (some ⟨w.heap.size+1+1,0,none⟩) 1 1,.map (some (w.heap.size+1+1+1)),.int .i64 0] B3x)) (w.heap.size+1+1+1+1) u ⟨[kz],0⟩from⟨⟨some ⟨w.heap.size+1+1,0,none⟩,1,w.heap.size+1+1+1,⟨hxl,⟨rfl,.inr ⟨_,1,_,rfl,by omega,hx3,Nat.le_refl _,by decide,rfl,rfl⟩⟩,hmk,by omega,by omega,hw0,hv.below hb5⟩⟩,A0x.of hb5,by
  rw[Below.heap_alloc _ _ _ (by rw[s4];omega),Below.heap_alloc _ _ _ (by rw[s3];omega),Below.heap_alloc _ _ _ (by rw[s2];omega),Below.heap_alloc _ _ _ (by simp)];exact heap_alloc_last w _,by
  rw[Below.heap_alloc _ _ _ (by rw[s4];omega),Below.heap_alloc _ _ _ (by rw[s3];omega),Below.heap_alloc _ _ _ (by rw[s2];omega)]
  have h9:=heap_alloc_last (w.alloc (.cells #[.string ⟨u.nm.toArray⟩,.string ⟨u.su.toArray⟩,.slice u.fa u.fn u.fc,.slice u.ma u.mn u.mc] UnT)) (.cells #[.slice none 0 0,.int .i64 0,.int .i64 0,.slice none 0 0,.slice none 0 0] A4v)
  rw[show(w.alloc (.cells #[.string ⟨u.nm.toArray⟩,.string ⟨u.su.toArray⟩,.slice u.fa u.fn u.fc,.slice u.ma u.mn u.mc] UnT)).heap.size=w.heap.size+1 by simp]at h9;exact h9⟩)
 have HU:=Lib.hid hu;have HF:=Lib.hid hf;have HV:=Lib.hid hv
 have HLO:=Lib.hid (show B5a u=(let s:=(⟨[kz],0⟩:LW).consts u.methods;let t:=s.cls u.nm false;let p:=if u.su=[]then(t.1,0)else t.1.cls u.su false;let f:=p.1.fields u.fields;let m:=f.1.methods u.methods;(m.1,⟨none,0,0,m.1.l,(t.2:Nat),(p.2:Nat),none,0,0,f.2,none,0,0,m.2⟩))from rfl)
 have HGO:=Lib.hid (C4b u hf)
 have HE:=Lib.hid (show D3d u=if(B5a u).1.e=0 then(if A2i (B5a u).2 then 0 else 8)else(B5a u).1.e from rfl)
 clear hu hf hv hb5 s2 s3 s4 hx3 hxl hmk;change Calls Tryz.prog 14 #[.agg #[.string ⟨u.nm.toArray⟩,.string ⟨u.su.toArray⟩,.slice u.fa u.fn u.fc,.slice u.ma u.mn u.mc]] w (C4a u w)
 have hmm:= @run_makeMap Tryz.prog;go_enter Tryz.func14,Tryz.ntmps14
 go_upto_region 2 with fail
 clear hmm
 generalize(((((w.alloc (.cells #[.string ⟨u.nm.toArray⟩,.string ⟨u.su.toArray⟩,.slice u.fa u.fn u.fc,.slice u.ma u.mn u.mc] UnT)).alloc (.cells #[.slice none 0 0,.int .i64 0,.int .i64 0,.slice none 0 0,.slice none 0 0] A4v)).alloc (.cells #[.int .i64 0,.int .i64 0,.int .i64 0,.int .i64 0,.string ⟨#[]⟩] A6h)).alloc (.map #[] 0)).alloc (.cells #[.slice (some ⟨w.heap.size+1+1,0,none⟩) 1 1,.map (some (w.heap.size+1+1+1)),.int .i64 0] B3x))=W at*
 obtain⟨g,hg⟩:∃g,g=w.heap.size+1+1+1+1:=⟨_,rfl⟩;rw[←hg]at HH0⊢;have hgw:w.heap.size+1<g:=by omega
 clear hg;have HBW:=Lib.hid (fun V s (h:FlH w V g u s)=>(h.hk.below (Below.refl _ w) (Nat.le_refl _):Below w.heap.size w V))
 have HCN:=Lib.hid (B8v W w w.heap.size g ⟨[kz],0⟩ u HH0.out.hs HU.out (HBW.out _ _ HH0.out) (Nat.le_refl _) HF.out (by simp) HH0.out.hk.size hw0)
 have hl1:=B6u ⟨[kz],0⟩ u.methods (fun m hm=>(HF.out.mt m hm).code);have hfm:=HF.out.methods;have hff:=HF.out.fields;rw[show([kz]:List KV).length=1 from rfl]at hl1
 generalize(⟨[kz],0⟩:LW).consts u.methods=s1 at*;dsimp only[UU.cells]at HCN
 obtain⟨u0,u1,u2,u3⟩:=(show W.cell? ⟨w.heap.size,0,none⟩=some (.string ⟨u.nm.toArray⟩)∧W.cell? ⟨w.heap.size,1,none⟩=some (.string ⟨u.su.toArray⟩)∧W.cell? ⟨w.heap.size,2,none⟩=some (.slice u.fa u.fn u.fc)∧W.cell? ⟨w.heap.size,3,none⟩=some (.slice u.ma u.mn u.mc)from⟨A0a HH0.out.u 0 rfl,A0a HH0.out.u 1 rfl,A0a HH0.out.u 2 rfl,A0a HH0.out.u 3 rfl⟩)
 go_wp2_with fail
 refine HCN.out.mono ?_;rintro e V1 ⟨rfl,hs,hk⟩;have HH1:=Lib.hid (HH0.out.call hs hk);clear hs hk HH0 HCN u0 u1 u2 u3
 have HCL:=Lib.hid (A4r V1 w.heap.size g s1 u.nm false HH1.out.hs HF.out.nm (by omega) HH1.out.hk.size);have hl2:=A7r s1 u.nm false;generalize s1.cls u.nm false=c2 at*;obtain⟨s2,th⟩:=c2
 dsimp only at HCL hl2 HLO;have u0:V1.cell? ⟨w.heap.size,0,none⟩=some (.string ⟨u.nm.toArray⟩):=A0a HH1.out.u 0 rfl
 go_wp2_with fail
 refine HCL.out.mono ?_;rintro e V2 ⟨rfl,hs,hk⟩;have HH2:=Lib.hid (HH1.out.call hs hk);clear hs hk HH1 HCL u0
 go_upto_region 4 with fail
 have hal:=A0e V2 (.cells #[.slice none 0 0,.int .i64 (th:Nat),.int .i64 0,.slice none 0 0,.slice none 0 0] A4v)
 have HJ0:=Lib.hid (show FlJ w (V2.alloc (.cells #[.slice none 0 0,.int .i64 (th:Nat),.int .i64 0,.slice none 0 0,.slice none 0 0] A4v)) g V2.heap.size u ⟨none,0,0,[],(th:Nat),0,none,0,0,[],none,0,0,[]⟩ s2 from⟨HH2.out.below hal,heap_alloc_last V2 _,⟨World.ownsRow_nil _ _ _ _,World.ownsRow_nil _ _ _ _,fun m hm=>by cases hm⟩⟩)
 have hgo:w.heap.size+1<V2.heap.size:=A0u HH2.out.z;have hgg:g<V2.heap.size:=HH2.out.hs.lt;clear hal HH2
 generalize V2.alloc (.cells #[.slice none 0 0,.int .i64 (th:Nat),.int .i64 0,.slice none 0 0,.slice none 0 0] A4v)=W3 at*;generalize V2.heap.size=go at*
 have u1:W3.cell? ⟨w.heap.size,1,none⟩=some (.string ⟨u.su.toArray⟩):=A0a HJ0.out.h.u 1 rfl;obtain⟨bs,hbs⟩:∃bs,bs= !u.su.isEmpty:=⟨_,rfl⟩
 have e1:u.su.isEmpty= !bs:=by rw[hbs,Bool.not_not]
 have e0:(u.su !=[])=bs:=by rw[hbs];cases u.su<;>rfl
 have HBS:=Lib.hid hbs;clear hbs
 obtain⟨SP,hSP⟩:∃SP,SP=if u.su=[]then(s2,0)else s2.cls u.su false:=⟨_,rfl⟩
 rw[←hSP]at HLO
 have hl3:SP.1.l.length≤s2.l.length+4:=by
  rw[hSP];split
  ·show s2.l.length≤_;omega
  ·exact A7r _ _ _
 have HSP:=Lib.hid hSP;clear hSP
 go_upto_if 25 with fail
 go_cut [] (fun wx=>Hid (FlJ w wx g go u ⟨none,0,0,[],(th:Nat),(SP.2:Nat),none,0,0,[],none,0,0,[]⟩ SP.1))
 case first=>
  cases bs
  ·have hse:u.su=[]:=by
    have h:=HBS.out
    rcases hq:u.su with _|⟨a,l⟩
    ·rfl
    ·rw[hq]at h;cases h
   have HQ:=Lib.hid (show SP=(s2,0) by rw[HSP.out,if_pos hse]);clear hse e0 e1
   go_wp2_with fail
   go_meet;exact Lib.hid (by rw[HQ.out];exact HJ0.out)
  ·have hse:¬u.su=[]:=fun h=>by
    have h1:=HBS.out;rw[h]at h1
    cases h1
   have HQ0:=show SP=s2.cls u.su false by rw[HSP.out,if_neg hse]
   have HC:=Lib.hid (A4r W3 w.heap.size g s2 u.su false HJ0.out.h.hs HF.out.su (by omega) HJ0.out.h.hk.size);generalize s2.cls u.su false=c3 at*;obtain⟨s3,su⟩:=c3;dsimp only at HC
   have HQ:=Lib.hid HQ0;clear hse e0 e1 HQ0
   go_wp2_with fail
   refine HC.out.mono ?_;rintro e V3 ⟨rfl,hs,hk⟩;have HJ1:=Lib.hid (HJ0.out.call hs hk);clear hs hk HJ0 HC;have fo:=A1a HJ1.out.o 2;have lo:=A0u HJ1.out.o;have co:=A0a HJ1.out.o 2 rfl
   dsimp only[KF.cells]at co
   go_wp2_with fail
   go_meet
   exact Lib.hid (by
    rw[HQ.out];exact HJ1.out.h.put (x':=⟨none,0,0,[],(th:Nat),(su:Nat),none,0,0,[],none,0,0,[]⟩) HJ1.out.o hgo 2 _ rfl ⟨HJ1.out.w.fields,HJ1.out.w.methods,HJ1.out.w.each⟩)
 case rest=>
  have HJ1:=hcut;clear hcut HJ0 u1 e0 e1 HBS HSP;obtain⟨s3,su⟩:=SP;dsimp only at HJ1 hl3 HLO;have u2:wc.cell? ⟨w.heap.size,2,none⟩=some (.slice u.fa u.fn u.fc):=A0a HJ1.out.h.u 2 rfl
  have HFL:=Lib.hid HU.out.fields.1;rw[HFL.out]at hff
  go_wp2_with fail
  go_loopg [34] u.fn (fun gn i wr=>∃(j:Nat) (x:KF),j≤u.fn∧gn=u.fn-j∧i= .int .i64 j∧Hid (x.lp=⟨none,0,0,[],(th:Nat),(su:Nat),none,0,0,(s3.fields (u.fields.take j)).2,none,0,0,[]⟩)∧Hid (FlJ w wr g go u x (s3.fields (u.fields.take j)).1))
  case atStart=>exact⟨0,_,by omega,by omega,by go_num,Lib.hid rfl,HJ1⟩
  case round=>
   clear HJ1 u2;obtain⟨j,x,hj,rfl,rfl,HX,HJ⟩:=hrel;by_cases hlt:j<u.fn
   ·have HRF:=Lib.hid (HU.out.fields.below (HBW.out _ _ HJ.out.h));obtain⟨bq,off,f,hbq,hbl,hfx,q⟩:=HRF.out.getC j hlt;have q0:=q 0 (by omega);have q1:=q 1 (by omega)
    have q2:=q 2 (by omega);rw[Nat.add_zero]at q0;simp only[UF.cells,List.getElem?_cons_zero,List.getElem?_cons_succ]at q0 q1 q2;have hj1:(j:Int)<u.fn:=by omega
    have HFF:=Lib.hid (HF.out.fd f (List.mem_of_getElem? hfx))
    have HSN:=Lib.hid (show s3.fields (u.fields.take (j+1))=((((s3.fields (u.fields.take j)).1).field f).1,(s3.fields (u.fields.take j)).2++[(((s3.fields (u.fields.take j)).1).field f).2]) by
     have hjl:=(List.getElem?_eq_some_iff.1 hfx).1;rw[List.take_succ_eq_append_getElem hjl,(List.getElem?_eq_some_iff.1 hfx).2,C1f])
    have hln:=B6j s3 (u.fields.take j);rw[List.length_take,HFL.out,Nat.min_eq_left hj]at hln
    have hxn:x.fn=j:=by
     have h1:=congrArg (fun y=>y.fields.length) HX.out;have h2:=HJ.out.w.fn';have h3:=B6f s3 (u.fields.take j);rw[List.length_take,HFL.out,Nat.min_eq_left hj]at h3
     dsimp only[KF.lp]at h1;omega
    generalize s3.fields (u.fields.take j)=SJ at*;obtain⟨sj,lj⟩:=SJ;dsimp only at HX HJ HSN hln;have HXN:=Lib.hid hxn;clear hfx q hxn HRF
    go_upto_region 9 with fail
    have hal:=A0e wr (.cells #[.bool f.st,.string ⟨f.nm.toArray⟩,.string ⟨f.ds.toArray⟩] 52)
    have HT1:=Lib.hid (show(wr.alloc (.cells #[.bool f.st,.string ⟨f.nm.toArray⟩,.string ⟨f.ds.toArray⟩] 52)).heap[wr.heap.size]? =some (.cells f.cells.toArray 52 (0,0))from heap_alloc_last wr _)
    have HJ1:=Lib.hid (HJ.out.below hal);clear hal q0 q1 q2 hbq hbl HJ;generalize wr.alloc (.cells #[.bool f.st,.string ⟨f.nm.toArray⟩,.string ⟨f.ds.toArray⟩] 52)=W at*
    generalize wr.heap.size=gx at*;obtain⟨b1,hb1⟩:∃b,b=A7v f.nm:=⟨_,rfl⟩;obtain⟨b2,hb2⟩:∃b,b=typeB f.ds:=⟨_,rfl⟩;have HI1:=Lib.hid (fun W hv=>A5m W f.nm HFF.out.1 hv)
    have HI2:=Lib.hid (fun W hv=>A3q W f.ds HFF.out.2 hv);obtain⟨RT,hRT⟩:∃RT,RT=sj.field f:=⟨_,rfl⟩;rw[←hRT]at HSN;unfold LW.field at hRT;dsimp only at hRT;rw[←hb1]at HI1 hRT
    rw[←hb2]at HI2 hRT;have h0s:(sj.need (b1&&b2) 8).l=sj.l:=rfl;have hl4:=A2h (sj.need (b1&&b2) 8) f.nm;rw[h0s]at hl4
    have HT2:=Lib.hid (fun V hs hB9=>A3b V w.heap.size g (sj.need (b1&&b2) 8) f.nm hs HFF.out.1 (show sj.l.length≤_ by omega) hB9);generalize(sj.need (b1&&b2) 8).text f.nm=n4 at*
    obtain⟨s4,i4⟩:=n4;dsimp only at HT2 hl4 hRT;have HT3:=Lib.hid (fun V hs hB9=>A3b V w.heap.size g s4 f.ds hs HFF.out.2 (by omega) hB9);generalize s4.text f.ds=n5 at*
    obtain⟨s5,i5⟩:=n5;dsimp only at HT3 hRT;have HRT:=Lib.hid hRT;clear hRT hb1 hb2
    go_cut [] (fun wx=>Hid (FlJ w wx g go u x (sj.need (b1&&b2) 8))∧Hid (wx.heap[gx]? =some (.cells f.cells.toArray 52 (0,0))))
    case first=>
     have f1:W.cell? ⟨gx,1,none⟩=some (.string ⟨f.nm.toArray⟩):=A0a HT1.out 1 rfl;have HND:=Lib.hid (fun V ok (h:LoS V w.heap.size g sj)=>A0y V w.heap.size g sj ok 8 h)
     go_wp2_with fail
     refine(HI1.out W HJ1.out.h.hs.vw).mono ?_;rintro e V1 ⟨rfl,hb1⟩;have HJ2:=Lib.hid (HJ1.out.below hb1);have HTa:=Lib.hid (A0c HT1.out hb1);clear hb1 HJ1 HT1 f1
     cases b1
     ·go_wp2_with fail
      refine(HND.out V1 false HJ2.out.h.hs).mono ?_;rintro e V2 ⟨rfl,hs,hk⟩
      go_wp2_with fail
      go_meet;exact⟨Lib.hid (HJ2.out.call hs hk),Lib.hid (hk.row HTa.out (by decide) (by decide))⟩
     ·have f2:V1.cell? ⟨gx,2,none⟩=some (.string ⟨f.ds.toArray⟩):=A0a HTa.out 2 rfl
      go_wp2_with fail
      refine(HI2.out V1 HJ2.out.h.hs.vw).mono ?_;rintro e V2 ⟨rfl,hb2⟩;have HJ3:=Lib.hid (HJ2.out.below hb2);have HTb:=Lib.hid (A0c HTa.out hb2);clear hb2 HJ2 HTa f2
      go_wp2_with fail
      refine(HND.out V2 b2 HJ3.out.h.hs).mono ?_;rintro e V3 ⟨rfl,hs,hk⟩
      go_wp2_with fail
      go_meet;exact⟨Lib.hid (HJ3.out.call hs hk),Lib.hid (hk.row HTb.out (by decide) (by decide))⟩
    case rest=>
     obtain⟨HJ2,HTa⟩:=hcut;clear HJ1 HT1 HI1 HI2
     go_upto_region 10 with fail
     have HJd:=Lib.hid (HJ2.out.below ((Below.refl _ _).drew));have HTd:=Lib.hid (A0c HTa.out ((Below.refl _ wc).drew))
     have hSw:BxF gx go f (.slice x.fa x.fn x.fc) wc.drew:=⟨HTd.out,A0a HJd.out.o 3 rfl⟩;have l0:=fun z (h:BxF gx go f (.slice x.fa x.fn x.fc) z)=>h.2
     have l1:∀z,BxF gx go f (.slice x.fa x.fn x.fc) z→z.cell? ⟨gx,0,none⟩=some (.bool f.st):=fun z h=>A0a h.1 0 rfl
     have l2:∀z,BxF gx go f (.slice x.fa x.fn x.fc) z→z.cell? ⟨gx,1,none⟩=some (.string ⟨f.nm.toArray⟩):=fun z h=>A0a h.1 1 rfl
     have l3:∀z,BxF gx go f (.slice x.fa x.fn x.fc) z→z.cell? ⟨gx,2,none⟩=some (.string ⟨f.ds.toArray⟩):=fun z h=>A0a h.1 2 rfl
     refine A2v (BxF gx go f (.slice x.fa x.fn x.fc)) 17 [(0,true),(1,true),(2,true),(3,true),(5,true),(6,true),(7,true),(9,true),(10,true),(11,true),(4,false),(8,false),(12,false),(13,true),(14,false),(15,false),(16,true)] (by kernel_rfl) (by kernel_rfl) (fun c a d v w h=>by cases d<;>exact h) ?_
     generalize wc.drew=V0 at*
     iterate 10
      refine A0t fun K hK=>tkF ?_
      go_simp
      try go_bits
      refine hK _ _ ?_;clear hK K
     refine A0t fun K hK=>alF ?_
     go_step;refine(B1b V0 f.st).mono ?_;rintro e V9 ⟨rfl,hq⟩;replace hq:=hq.symm;subst hq;go_simp
     first|refine⟨hSw,hK _ _ ?_⟩|refine hK _ _ ?_
     clear hK K;refine A0t fun K hK=>alF ?_
     go_step;refine(HT2.out V0 HJd.out.h.hs HJd.out.h.hk.size).mono ?_;rintro e V1 ⟨rfl,hs9,hk9⟩;have HJ3:=Lib.hid (HJd.out.call hs9 hk9)
     have HTb:=Lib.hid (hk9.row HTd.out (by decide) (by decide));have hSn:BxF gx go f (.slice x.fa x.fn x.fc) V1:=⟨HTb.out,A0a HJ3.out.o 3 rfl⟩;clear hs9 hk9 hSw HJd HTd HJ2 HTa HT2
     have hSw:=hSn;clear hSn;go_simp
     first|refine⟨hSw,hK _ _ ?_⟩|refine hK _ _ ?_
     clear hK K;refine A0t fun K hK=>alF ?_
     go_step;refine(HT3.out V1 HJ3.out.h.hs HJ3.out.h.hk.size).mono ?_;rintro e V2 ⟨rfl,hs9,hk9⟩;have HJ4:=Lib.hid (HJ3.out.call hs9 hk9)
     have HTc:=Lib.hid (hk9.row HTb.out (by decide) (by decide));have hSn:BxF gx go f (.slice x.fa x.fn x.fc) V2:=⟨HTc.out,A0a HJ4.out.o 3 rfl⟩;clear hs9 hk9 hSw HJ3 HTb HT3;have hSw:=hSn
     clear hSn;go_simp
     first|refine⟨hSw,hK _ _ ?_⟩|refine hK _ _ ?_
     clear hK K
     iterate 1
      refine A0t fun K hK=>tkF ?_
      go_simp
      try go_bits
      refine hK _ _ ?_;clear hK K
     refine A0t fun K hK=>alF ?_
     go_step;have hal:Below V2.heap.size V2 (V2.alloc (.cells #[.int .i64 (A3j f.st),.int .i64 (i4:Nat),.int .i64 (i5:Nat)] D5j)):=A0e _ _
     have hSx:BxF gx go f (.slice x.fa x.fn x.fc) (V2.alloc (.cells #[.int .i64 (A3j f.st),.int .i64 (i4:Nat),.int .i64 (i5:Nat)] D5j)):=⟨A0c hSw.1 hal,A0f hal hSw.2⟩
     refine⟨hSx,hK _ _ ?_⟩;clear hK K hSw hSx hal;refine A0t fun K hK=>alF ?_
     change Oper.wp _ _ _ _ _ _;have hxt:x.fn≤1024:=by rw[HXN.out];omega
     refine A8i D9g (ops:= #[]) rfl _ _ _ rfl w.heap.size _ x.fn _ rfl (HJ4.out.w.fields.alloc _) _ 1 _ rfl (Src.litS (m:=1) rfl rfl D9g.1) (by omega) (by unfold maxLen;omega) (Nat.le_trans HJ4.out.h.hk.size (by simp)) ?_
     intro v9 w9 hown9 hg9 hb9
     have hown8:w9.ownsRow w.heap.size D5j 3 v9 (x.fn+1) ((x.fields++[(⟨A3j f.st,(i4:Nat),(i5:Nat)⟩:KD)]).flatMap KD.cells):=(by rw[List.flatMap_append];exact hown9)
     obtain⟨a9,c9,rfl,-,-⟩:=Ss.ofOwn KD.cells_length (by decide) hown8;have hkt:=A3a.app HJ4.out.w.fields hg9
     have hb8:Below w.heap.size V2 w9:=(((Below.refl V2.heap.size V2).alloc (Nat.le_refl _) _).mono HJ4.out.h.hk.size).trans hb9
     have HAP:=Lib.hid (HJ4.out.app hw0 HJ4.out.w.fields hg9 hb8 (by decide) (by decide) (by decide) (by decide));have HOW:=Lib.hid (HJ4.out.w.fields1 hkt hown8)
     have hSw:BxF gx go f (.slice x.fa x.fn x.fc) w9:=⟨hkt.2 _ _ _ _ HTc.out (by decide),A0a HAP.out.2 3 rfl⟩;clear hown9 hown8 hg9 hb9 hb8 hkt HJ4 HTc;refine⟨hSw,hK _ _ ?_⟩;clear hK K
     iterate 1
      refine A0t fun K hK=>tkF ?_
      go_simp
      try go_bits
      refine hK _ _ ?_;clear hK K
     have fo:=A1a HAP.out.2 3;have lo:=A0u HAP.out.2;have co:=A0a HAP.out.2 3 rfl;dsimp only[KF.cells]at co;refine A5p (laF ?_);go_step
     have HJ9:=Lib.hid (HAP.out.1.put (x':={x with fa:=a9,fn:=x.fn+1,fc:=c9,fields:=x.fields++[(⟨A3j f.st,(i4:Nat),(i5:Nat)⟩:KD)]}) HAP.out.2 hgo 3 (.slice a9 (x.fn+1) c9) rfl HOW.out)
     clear hSw fo lo co HAP HOW l0 l1 l2 l3
     go_wp2_with fail
     go_roundg (u.fn-(j+1))
     case measure=>omega
     case rel=>exact⟨j+1,{x with fa:=a9,fn:=x.fn+1,fc:=c9,fields:=x.fields++[(⟨A3j f.st,(i4:Nat),(i5:Nat)⟩:KD)]},by omega,rfl,by go_num,Lib.hid (by rw[HSN.out,HRT.out];exact KF.lp_fields1 HX.out _ _ _ _),Lib.hid (by rw[HSN.out,HRT.out];exact HJ9.out)⟩
   ·have hjt:j=u.fn:=by omega
    subst hjt;have hfull:u.fields.take u.fn=u.fields:=List.take_of_length_le (by rw[HFL.out];exact Nat.le_refl _);rw[hfull]at HX HJ;have hl5:=B6j s3 u.fields;rw[HFL.out]at hl5
    generalize s3.fields u.fields=S5 at*;obtain⟨s5,fds⟩:=S5;dsimp only at HX HJ HLO hl5;obtain⟨W9,hW9⟩:∃W9,W9=wr:=⟨_,rfl⟩;subst hW9
    have u3:W9.cell? ⟨w.heap.size,3,none⟩=some (.slice u.ma u.mn u.mc):=A0a HJ.out.h.u 3 rfl;have HML:=Lib.hid HU.out.methods.1;have hfm0:=hfm;rw[HML.out]at hfm;clear hfull hlt hj
    go_wp2_with fail
    go_loopg [69] u.mn (fun gn i wx=>∃(k:Nat) (x:KF),k≤u.mn∧gn=u.mn-k∧i= .int .i64 k∧Hid (x.lp=⟨none,0,0,[],(th:Nat),(su:Nat),none,0,0,fds,none,0,0,(s5.methods (u.methods.take k)).2⟩)∧Hid (FlJ w wx g go u x (s5.methods (u.methods.take k)).1))
    case atStart=>exact⟨0,_,by omega,by omega,by go_num,HX,HJ⟩
    case round=>
     clear HX HJ u3;obtain⟨k,x,hk,rfl,rfl,HX,HJ⟩:=hrel;by_cases hlt:k<u.mn
     ·have HRM:=Lib.hid (HU.out.methods.below (HBW.out _ _ HJ.out.h));obtain⟨bq,off,m,hbq,hbl,hm,q⟩:=HRM.out.getC k hlt;have q0:=q 0 (by omega);have q1:=q 1 (by omega)
      have q2:=q 2 (by omega);have q3:=q 3 (by omega);have q4:=q 4 (by omega);have q5:=q 5 (by omega);have q6:=q 6 (by omega);have q7:=q 7 (by omega);rw[Nat.add_zero]at q0
      simp only[UM.cells,List.getElem?_cons_zero,List.getElem?_cons_succ]at q0 q1 q2 q3 q4 q5 q6 q7;have hj1:(k:Int)<u.mn:=by omega
      have hmm:=List.mem_of_getElem? hm;have HFM:=Lib.hid (HF.out.mt m hmm);have HMR:=Lib.hid (HU.out.each m hmm)
      have HSN:=Lib.hid (show s5.methods (u.methods.take (k+1))=((((s5.methods (u.methods.take k)).1).method m).1,(s5.methods (u.methods.take k)).2++[(((s5.methods (u.methods.take k)).1).method m).2]) by
       have hjl:=(List.getElem?_eq_some_iff.1 hm).1;rw[List.take_succ_eq_append_getElem hjl,(List.getElem?_eq_some_iff.1 hm).2,B9t])
      have hln:=C2a s5 (u.methods.take k) (fun m hm=>HF.out.mt m (List.mem_of_mem_take hm));rw[List.length_take,HML.out,Nat.min_eq_left hk]at hln
      have hxn:x.mn=k:=by
       have h1:=congrArg (fun y=>y.methods.length) HX.out;have h2:=HJ.out.w.mn';have h3:=B4u s5 (u.methods.take k);rw[List.length_take,HML.out,Nat.min_eq_left hk]at h3
       dsimp only[KF.lp]at h1;rw[List.length_map]at h1;omega
      generalize s5.methods (u.methods.take k)=SJ at*;obtain⟨sj,lj⟩:=SJ;dsimp only at HX HJ HSN hln;have HXN:=Lib.hid hxn;clear hm q hxn HRM hmm
      go_upto_region 15 with fail
      have hal:=A0e wr (.cells #[.bool m.st,.string ⟨m.nm.toArray⟩,.string ⟨m.ds.toArray⟩,.int .i64 m.sk,.int .i64 m.lo,.slice m.ca m.cn m.cc,.slice m.ta m.tn m.tc,.slice m.ma m.mn m.mc] A0v)
      have HT1:=Lib.hid (show(wr.alloc (.cells #[.bool m.st,.string ⟨m.nm.toArray⟩,.string ⟨m.ds.toArray⟩,.int .i64 m.sk,.int .i64 m.lo,.slice m.ca m.cn m.cc,.slice m.ta m.tn m.tc,.slice m.ma m.mn m.mc] A0v)).heap[wr.heap.size]? =some (.cells m.cells.toArray A0v (0,0))from heap_alloc_last wr _)
      have HJ1:=Lib.hid (HJ.out.below hal);clear hal q0 q1 q2 q3 q4 q5 q6 q7 hbq hbl HJ
      generalize wr.alloc (.cells #[.bool m.st,.string ⟨m.nm.toArray⟩,.string ⟨m.ds.toArray⟩,.int .i64 m.sk,.int .i64 m.lo,.slice m.ca m.cn m.cc,.slice m.ta m.tn m.tc,.slice m.ma m.mn m.mc] A0v)=W at*
      generalize wr.heap.size=gx at*;have HJd:=Lib.hid (HJ1.out.below ((Below.refl _ _).drew));have HTd:=Lib.hid (A0c HT1.out ((Below.refl _ W).drew))
      have hSw:BxN gx go m (.slice x.ma x.mn x.mc) W.drew:=⟨HTd.out,A0a HJd.out.o 4 rfl⟩;have l0:=fun z (h:BxN gx go m (.slice x.ma x.mn x.mc) z)=>h.2
      have l1:=fun z (h:BxN gx go m (.slice x.ma x.mn x.mc) z)=>A0a h.1 0 rfl
      have l2:=fun z (h:BxN gx go m (.slice x.ma x.mn x.mc) z)=>A0a h.1 1 rfl
      have l3:=fun z (h:BxN gx go m (.slice x.ma x.mn x.mc) z)=>A0a h.1 2 rfl
      have l4:=fun z (h:BxN gx go m (.slice x.ma x.mn x.mc) z)=>A0a h.1 3 rfl
      have l5:=fun z (h:BxN gx go m (.slice x.ma x.mn x.mc) z)=>A0a h.1 4 rfl
      have l6:=fun z (h:BxN gx go m (.slice x.ma x.mn x.mc) z)=>A0a h.1 5 rfl
      have l7:=fun z (h:BxN gx go m (.slice x.ma x.mn x.mc) z)=>A0a h.1 6 rfl
      have l8:=fun z (h:BxN gx go m (.slice x.ma x.mn x.mc) z)=>A0a h.1 7 rfl
      dsimp only[UM.cells]at l1 l2 l3 l4 l5 l6 l7 l8
      refine A2v (BxN gx go m (.slice x.ma x.mn x.mc)) 8 [(0,true),(1,true),(2,true),(3,true),(4,false),(5,false),(6,false),(7,true)] (by kernel_rfl) (by kernel_rfl) (fun c a d v w h=>by cases d<;>exact h) ?_
      generalize W.drew=V0 at*
      iterate 4
       refine A0t fun K hK=>tkF ?_
       go_simp
       try go_bits
       refine hK _ _ ?_;clear hK K
      have HME:=Lib.hid (C0b V0 w w.heap.size g sj m HJd.out.h.hs HMR.out (HBW.out _ _ HJd.out.h) (Nat.le_refl _) HFM.out (by omega) HJd.out.h.hk.size hw0);unfold B3t at HME
      generalize sj.method m=RM at*;obtain⟨s6,mm⟩:=RM;dsimp only at HME HSN;refine A0t fun K hK=>alF ?_
      go_step;refine HME.out.mono ?_;rintro e V1 ⟨y,rfl,hyp,hyo,hs9,hk9⟩;have HY:=Lib.hid hyp;have HYO:=Lib.hid (hyo.mono HJd.out.h.hk.size);have HJ4:=Lib.hid (HJd.out.call hs9 hk9)
      have HTb:=Lib.hid (hk9.row HTd.out (by decide) (by decide));have hSn:BxN gx go m (.slice x.ma x.mn x.mc) V1:=⟨HTb.out,A0a HJ4.out.o 4 rfl⟩
      clear hyp hyo hs9 hk9 hSw HJd HTd HME HJ1 HT1;have hSw:=hSn;clear hSn;dsimp only[KM.cells];go_simp
      first|refine⟨hSw,hK _ _ ?_⟩|refine hK _ _ ?_
      clear hK K;refine A0t fun K hK=>alF ?_
      go_step
      have hal:Below V1.heap.size V1 (V1.alloc (.cells #[.int .i64 y.fl,.int .i64 y.nm,.int .i64 y.ds,.int .i64 y.st,.int .i64 y.lo,.slice y.ca y.cn y.cc,.slice y.ta y.tn y.tc,.slice y.ma y.mn y.mc] FMT)):=A0e _ _
      have hSx:BxN gx go m (.slice x.ma x.mn x.mc) (V1.alloc (.cells #[.int .i64 y.fl,.int .i64 y.nm,.int .i64 y.ds,.int .i64 y.st,.int .i64 y.lo,.slice y.ca y.cn y.cc,.slice y.ta y.tn y.tc,.slice y.ma y.mn y.mc] FMT)):=⟨A0c hSw.1 hal,A0f hal hSw.2⟩
      refine⟨hSx,hK _ _ ?_⟩;clear hK K hSw hSx hal;refine A0t fun K hK=>alF ?_
      change Oper.wp _ _ _ _ _ _;have hxt:x.mn≤1024:=by rw[HXN.out];omega
      refine A8i D9y (ops:= #[]) rfl _ _ _ rfl w.heap.size _ x.mn _ rfl (HJ4.out.w.methods.alloc _) _ 1 _ rfl (Src.litS (m:=1) rfl rfl D9y.1) (by omega) (by unfold maxLen;omega) (Nat.le_trans HJ4.out.h.hk.size (by simp)) ?_
      intro v9 w9 hown9 hg9 hb9;have hown8:w9.ownsRow w.heap.size FMT 8 v9 (x.mn+1) ((x.methods++[y]).flatMap KM.cells):=(by rw[List.flatMap_append];exact hown9)
      obtain⟨a9,c9,rfl,-,-⟩:=Ss.ofOwn KM.cells_length (by decide) hown8;have hkt:=A3a.app HJ4.out.w.methods hg9
      have hb8:Below w.heap.size V1 w9:=(((Below.refl V1.heap.size V1).alloc (Nat.le_refl _) _).mono HJ4.out.h.hk.size).trans hb9
      have HAP:=Lib.hid (HJ4.out.app hw0 HJ4.out.w.methods hg9 hb8 (by decide) (by decide) (by decide) (by decide))
      have HOW:=Lib.hid (HJ4.out.w.methods1 hkt (HYO.out.keptT hkt (by decide) (by decide) (by decide) (by decide)) hown8)
      have hSw:BxN gx go m (.slice x.ma x.mn x.mc) w9:=⟨hkt.2 _ _ _ _ HTb.out (by decide),A0a HAP.out.2 4 rfl⟩;clear hown9 hown8 hg9 hb9 hb8 hkt HJ4 HTb HYO;refine⟨hSw,hK _ _ ?_⟩
      clear hK K
      iterate 1
       refine A0t fun K hK=>tkF ?_
       go_simp
       try go_bits
       refine hK _ _ ?_;clear hK K
      have fo:=A1a HAP.out.2 4;have lo:=A0u HAP.out.2;have co:=A0a HAP.out.2 4 rfl;dsimp only[KF.cells]at co;refine A5p (laF ?_);go_step
      have HJ9:=Lib.hid (HAP.out.1.put (x':={x with ma:=a9,mn:=x.mn+1,mc:=c9,methods:=x.methods++[y]}) HAP.out.2 hgo 4 (.slice a9 (x.mn+1) c9) rfl HOW.out)
      clear hSw fo lo co HAP HOW l0 l1 l2 l3 l4 l5 l6 l7 l8
      go_wp2_with fail
      go_roundg (u.mn-(k+1))
      case measure=>omega
      case rel=>exact⟨k+1,{x with ma:=a9,mn:=x.mn+1,mc:=c9,methods:=x.methods++[y]},by omega,rfl,by go_num,Lib.hid (by rw[HSN.out];have h:=KF.lp_methods1 HX.out a9 (x.mn+1) c9 y;rw[HY.out]at h;exact h),Lib.hid (by rw[HSN.out];exact HJ9.out)⟩
     ·have hkt:k=u.mn:=by omega
      subst hkt;have hfull:u.methods.take u.mn=u.methods:=List.take_of_length_le (by rw[HML.out];exact Nat.le_refl _);rw[hfull]at HX HJ;generalize s5.methods u.methods=S6 at*
      obtain⟨s6,mts⟩:=S6;dsimp only at HX HJ HLO;clear hfull hlt hk;obtain⟨a,cap,b,hlx⟩:=HJ.out.h.hs;have HLX:=Lib.hid hlx;obtain⟨c0,c1,c2,g0,g1,g2,glt⟩:=hlx.k.box
      have fo:=A1a HJ.out.o 0;have lo:=A0u HJ.out.o;have co:=A0a HJ.out.o 0 rfl;dsimp only[KF.cells]at co;clear hlx
      go_upto_region 18 with fail
      have HJ1:=Lib.hid (show FlJ w (wr.setCell ⟨go,0,none⟩ (.slice a s6.l.length cap)) g go u {x with pa:=a,pn:=s6.l.length,pc:=cap,pool:=s6.l} s6 from HJ.out.h.put HJ.out.o hgo 0 _ rfl ⟨HJ.out.w.fields,HJ.out.w.methods,HJ.out.w.each⟩)
      have HOP:=Lib.hid (A0z HLX.out.o (A3v HJ.out.o 0 (.slice a s6.l.length cap)) (show A6h≠A4v by decide))
      have HXL:=Lib.hid (show KF.lp {x with pa:=a,pn:=s6.l.length,pc:=cap,pool:=s6.l}=(B5a u).2 from by
       rw[HLO.out];have h:=HX.out;simp only[KF.lp,KF.mk.injEq]at h⊢;obtain⟨-,-,-,e1,e2,e3,-,-,-,e4,-,-,-,e5⟩:=h
       exact⟨trivial,trivial,trivial,trivial,e2,e3,trivial,trivial,trivial,e4,trivial,trivial,trivial,e5⟩)
      have HES:=Lib.hid (show(B5a u).1=s6 from by rw[HLO.out])
      have HGK:=Lib.hid (show C7w (wr.setCell ⟨go,0,none⟩ (.slice a s6.l.length cap)) g (.slice a s6.l.length cap) (.map (some b)) (.int .i64 s6.e) B3x from A1c HLX.out.k (by omega) 0 _)
      rw[HES.out]at HGO HE;clear c0 c1 c2 g0 g1 g2 glt fo lo co HJ HX HLO HLX;generalize wr.setCell ⟨go,0,none⟩ (.slice a s6.l.length cap)=V1 at*
      generalize hx1:({x with pa:=a,pn:=s6.l.length,pc:=cap,pool:=s6.l}:KF)=x1 at*
      have HOX:=Lib.hid (show V1.ownsRow w.heap.size A6h 5 (.slice x1.pa x1.pn x1.pc) x1.pn (x1.pool.flatMap KV.cells)from by rw[←hx1];exact HOP.out);have HBV:=Lib.hid (HBW.out _ _ HJ1.out.h)
      have HZ1:=Lib.hid HJ1.out.h.z;clear hx1 HOP;obtain⟨c0,c1,c2,g0,g1,g2,glt⟩:=HGK.out.box;by_cases h0:s6.e=0
      ·have e0:(s6.e==0)=true:=by simpa using h0
       have HSE:=Lib.hid h0;have HRD:=Lib.hid (HJ1.out.w.rd HOX.out);have HFT:=Lib.hid (D7w u HF.out x1 V1 HXL.out HRD.out (by rw[HES.out];exact h0))
       have HCH:=Lib.hid (B6z V1 x1 HRD.out HFT.out);unfold B2d at HCH
       obtain⟨r,hr⟩:∃r:Int,r=if A2i x1 then 0 else 8:=⟨_,rfl⟩
       rw[←hr]at HCH;have HLE:=Lib.hid (show D3d u=r from by rw[HE.out,if_pos h0,hr,←C7d x1,HXL.out]);have x0:=A0a HJ1.out.o 0 rfl;have x1c:=A0a HJ1.out.o 1 rfl
       have x2:=A0a HJ1.out.o 2 rfl;have x3:=A0a HJ1.out.o 3 rfl;have x4:=A0a HJ1.out.o 4 rfl;dsimp only[KF.cells]at x0 x1c x2 x3 x4;clear h0 hr
       go_wp2_with fail
       refine HCH.out.mono ?_;rintro e V2 ⟨rfl,hb2⟩;have HG2:=Lib.hid (HGK.out.below hb2);have HJ2:=Lib.hid (HJ1.out.below hb2);have HO2:=Lib.hid (A1n HOX.out hb2)
       have HB2:=Lib.hid (HBV.out.trans (hb2.mono HBV.out.size));clear hb2 HCH HGK HJ1 HRD HBV HZ1 c0 c1 c2 g0 g1 g2 glt x0 x1c x2 x3 x4 HOX;obtain⟨c0,c1,c2,g0,g1,g2,glt⟩:=HG2.out.box
       go_upto_region 20 with fail
       have HG3:=Lib.hid (show C7w (V2.setCell ⟨g,2,none⟩ (.int .i64 r)) g (.slice a s6.l.length cap) (.map (some b)) (.int .i64 r) B3x from A1d HG2.out 2 _)
       have HZ3:=Lib.hid (show(V2.setCell ⟨g,2,none⟩ (.int .i64 r)).heap[w.heap.size+1]? =some (.cells #[.slice none 0 0,.int .i64 0,.int .i64 0,.slice none 0 0,.slice none 0 0] A4v (0,0))from A1c HJ2.out.h.z (by omega) 2 _)
       have HO3:=Lib.hid (show(V2.setCell ⟨g,2,none⟩ (.int .i64 r)).heap[go]? =some (.cells x1.cells.toArray A4v (0,0))from A1c HJ2.out.o (by omega) 2 _)
       have HW3:=Lib.hid (HJ2.out.w.keptT (A3v HG2.out 2 (.int .i64 r)) (by decide) (by decide) (by decide) (by decide) (by decide) (by decide))
       have HP3:=Lib.hid (A0z HO2.out (A3v HG2.out 2 (.int .i64 r)) (by decide))
       have HB3:=Lib.hid (HB2.out.trans (show Below w.heap.size V2 (V2.setCell ⟨g,2,none⟩ (.int .i64 r))from(Below.refl _ _).setCell (show w.heap.size≤g by omega) _))
       clear HG2 HJ2 HO2 HB2 c0 c1 c2 g0 g1 g2 glt;generalize V2.setCell ⟨g,2,none⟩ (.int .i64 r)=V3 at*;have c2:V3.cell? ⟨g,2,none⟩=some (.int .i64 r):=HG3.out.box.c2
       have HG4:=Lib.hid c2;by_cases hr0:r=0
       ·have e1:(r !=0)=false:=by simp[hr0]
        have HLZ:=Lib.hid (show D3d u=0 from HLE.out.trans hr0);clear hr0
        go_upto_region 22 with fail
        refine wp_region_lit ?_;refine A0h rfl _ _ rfl _ rfl _ _ _ _ HO3.out Tryz.underlying26 rfl A6x ?_
        refine wpList_store_row rfl _ _ _ rfl _ _ rfl rfl _ _ HZ3.out A6x rfl (C3v _) ?_
        go_wp2_with fail
        refine bodyPost_ret (A0d rfl _ _ (w.heap.size+1) A4v (KF.cells _).toArray (0,0) _ rfl (setRow_heap _ _ _ _ _ _ HZ3.out) Tryz.underlying26 rfl A6x) rfl ?_
        have hkt:=A4c (cs':=x1.cells.toArray) HZ3.out
        exact⟨x1,by rw[HLZ.out];rfl,fun _=>⟨HXL.out,KF.Ow.rd (HW3.out.keptT hkt (by decide) (by decide) (by decide) (by decide) (by decide) (by decide)) (A0z HP3.out hkt (by decide)),HFT.out⟩,fun h=>absurd HLZ.out h,HB3.out.trans (below_setRow (by omega) _)⟩
       ·have e1:(r !=0)=true:=by simp[hr0]
        have HNZ:=Lib.hid hr0;clear hr0
        go_upto_region 21 with fail
        have hSw:QEl g (r) V3.drew:=HG4.out;have l0:∀z,QEl g (r) z→z.cell? ⟨g,2,none⟩=some (.int .i64 (r)):=fun z h=>h
        refine A0g (QEl g (r)) (.of [(0,true),(1,true),(2,true),(3,true),(4,true),(5,false)] (.stir [(6,true)])) (by kernel_rfl) (by kernel_rfl) (fun c a d v w h=>by cases d<;>exact h) ?_
        have HZD:=Lib.hid (show V3.drew.heap[w.heap.size+1]? =some (.cells #[.slice none 0 0,.int .i64 0,.int .i64 0,.slice none 0 0,.slice none 0 0] A4v (0,0))from HZ3.out)
        have HBD:=Lib.hid (HB3.out.trans (((Below.refl V3.heap.size V3).drew).mono HB3.out.size));generalize V3.drew=Vd at*
        iterate 5
         refine A0b fun K hK=>tkF ?_
         go_simp
         try go_bits
         refine hK _ _ ?_;clear hK K
        refine A0b fun K hK=>alF ?_
        refine wp_store_row A4v _ _ rfl (w.heap.size+1) #[.slice none 0 0,.int .i64 0,.int .i64 0,.slice none 0 0,.slice none 0 0] rfl rfl A4v _ HZD.out A6x rfl (C3v ⟨none,0,0,[],0,0,none,0,0,[],none,0,0,[]⟩) ?_
        have hSn:QEl g (r) (Vd.setRow (w.heap.size+1) #[.slice none 0 0,.int .i64 0,.int .i64 0,.slice none 0 0,.slice none 0 0]):=by
         have h:=hSw;unfold QEl World.cell? at h⊢;rw[setRow_other Vd (w.heap.size+1) g _ (by omega)];exact h
        refine⟨hSn,hK _ _ ?_⟩;clear hK K hSw
        refine A0m (fun y=>y=Vd.setRow (w.heap.size+1) #[.slice none 0 0,.int .i64 0,.int .i64 0,.slice none 0 0,.slice none 0 0]) (fun y hy=>hy▸hSn) rfl ?_
        iterate 1
         refine A0i fun K hK=>tkX ?_
         go_simp
         try go_bits
         refine hK _ ?_;clear hK K
        refine A0p (fun y hy=> ?_);subst hy
        go_wp2_with fail
        refine bodyPost_ret (A0d rfl _ _ (w.heap.size+1) A4v (KF.cells ⟨none,0,0,[],0,0,none,0,0,[],none,0,0,[]⟩).toArray (0,0) _ rfl (setRow_heap _ _ _ _ _ _ HZD.out) Tryz.underlying26 rfl A6x) rfl ?_
        exact⟨_,by rw[HLE.out];rfl,fun h=>absurd (HLE.out.symm.trans h) HNZ.out,fun _=>rfl,HBD.out.trans (below_setRow (by omega) _)⟩
      ·have e0:(s6.e==0)=false:=by simpa using h0
       have e1:(s6.e !=0)=true:=by simpa using h0
       have HNZ:=Lib.hid h0;have HLE:=Lib.hid (show D3d u=s6.e from by rw[HE.out,if_neg h0]);have HG4:=Lib.hid c2;clear h0
       go_upto_region 21 with fail
       have hSw:QEl g (s6.e) V1.drew:=HG4.out;have l0:∀z,QEl g (s6.e) z→z.cell? ⟨g,2,none⟩=some (.int .i64 (s6.e)):=fun z h=>h
       refine A0g (QEl g (s6.e)) (.of [(0,true),(1,true),(2,true),(3,true),(4,true),(5,false)] (.stir [(6,true)])) (by kernel_rfl) (by kernel_rfl) (fun c a d v w h=>by cases d<;>exact h) ?_
       have HZD:=Lib.hid (show V1.drew.heap[w.heap.size+1]? =some (.cells #[.slice none 0 0,.int .i64 0,.int .i64 0,.slice none 0 0,.slice none 0 0] A4v (0,0))from HZ1.out)
       have HBD:=Lib.hid (HBV.out.trans (((Below.refl V1.heap.size V1).drew).mono HBV.out.size));generalize V1.drew=Vd at*
       iterate 5
        refine A0b fun K hK=>tkF ?_
        go_simp
        try go_bits
        refine hK _ _ ?_;clear hK K
       refine A0b fun K hK=>alF ?_
       refine wp_store_row A4v _ _ rfl (w.heap.size+1) #[.slice none 0 0,.int .i64 0,.int .i64 0,.slice none 0 0,.slice none 0 0] rfl rfl A4v _ HZD.out A6x rfl (C3v ⟨none,0,0,[],0,0,none,0,0,[],none,0,0,[]⟩) ?_
       have hSn:QEl g (s6.e) (Vd.setRow (w.heap.size+1) #[.slice none 0 0,.int .i64 0,.int .i64 0,.slice none 0 0,.slice none 0 0]):=by
        have h:=hSw;unfold QEl World.cell? at h⊢;rw[setRow_other Vd (w.heap.size+1) g _ (by omega)];exact h
       refine⟨hSn,hK _ _ ?_⟩;clear hK K hSw
       refine A0m (fun y=>y=Vd.setRow (w.heap.size+1) #[.slice none 0 0,.int .i64 0,.int .i64 0,.slice none 0 0,.slice none 0 0]) (fun y hy=>hy▸hSn) rfl ?_
       iterate 1
        refine A0i fun K hK=>tkX ?_
        go_simp
        try go_bits
        refine hK _ ?_;clear hK K
       refine A0p (fun y hy=> ?_);subst hy
       go_wp2_with fail
       refine bodyPost_ret (A0d rfl _ _ (w.heap.size+1) A4v (KF.cells ⟨none,0,0,[],0,0,none,0,0,[],none,0,0,[]⟩).toArray (0,0) _ rfl (setRow_heap _ _ _ _ _ _ HZD.out) Tryz.underlying26 rfl A6x) rfl ?_
       exact⟨_,by rw[HLE.out];rfl,fun h=>absurd (HLE.out.symm.trans h) HNZ.out,fun _=>rfl,HBD.out.trans (below_setRow (by omega) _)⟩
end
end Go.Proofs.YtclpkipaehpkdaaGreatDoor
