/- asm -/
import Derived.Test.YtclpkipaehpkdaaGreatDoorQ12AsmLowers
import Derived.Lib.SmallJoins
import Derived.SizedLaws
set_option linter.unusedVariables false
set_option linter.unusedSimpArgs false
set_option maxRecDepth 100000
set_option maxHeartbeats 64000000
namespace Go.Proofs.YtclpkipaehpkdaaGreatDoor
section
open Go.ChangeShapes Go.WideShapes Go.ChangeAt Go.RowKit Go.Joins Go.Deep
theorem D6d{α:Type}(n:Nat)(P:Nat->α->Prop)(h:∀i,i<n->∃x,P i x):∃L:List α,L.length=n/\∀i (hi:i<L.length),P i L[i]:=by
 induction n with
 |zero=>exact⟨[],rfl,fun i hi=>by simp at hi⟩
 |succ n ih=>
  obtain⟨L,hl,hL⟩:=ih (fun i hi=>h i (by omega));obtain⟨x,hx⟩:=h n (by omega);refine⟨L++[x],by simp[hl],fun i hi=> ?_⟩;by_cases hin:i<L.length
  ·rw[List.getElem_append_left hin];exact hL i hin
  have:i=n:=by simp at hi;omega
  subst this;rw[List.getElem_append_right (by omega)];simpa[hl]using hx
theorem D4m(b off k j:Nat):((⟨b,off,none⟩:Addr).add k).add j=⟨b,off+k+j,none⟩:=by rw[B8n,B8n]
theorem D3c(x:Addr)(k:Nat):(x.add (0*k)).add 0=x:=by simp[Addr.add]
theorem D1e{n:Int}(h:(Lit.int .i64 n).wf=true):A5r n:=bounds_i64 h
theorem E3v{α:Type}{enc:α->Value}{w:World}{a:Option Addr}{n:Nat}{L:List α}(h:Ss 1 (fun v=>[enc v]) w a n L):Sl enc w a n L:=by
 refine⟨h.1,fun hn=> ?_⟩;obtain⟨b,off,ha,hlt,hc⟩:=h.2 hn;refine⟨b,off,ha,hlt,fun i hi=> ?_⟩;have:=hc i hi 0 (by omega);simpa using this
theorem E3a{cs:List Value}(h:cs.length=1):∃v,cs=[v]:=by
 match cs,h with
 |[v],_=>exact⟨v,rfl⟩
theorem A8m:reachBytes=140737488351232:=rfl
theorem A8q{H:Type}{enc:TypeId×Value->H}{w:World}{k:IntKind}{t:TypeId}{fuel:Nat}{v:Value}{x:DataW H×List MemPlace}(ht:Tryz.prog.underlying t=some (.int k))(hf:DataW.trod enc Tryz.prog w 0 (fun _=>true) true fuel t [v]=some x):∃n,v= .int k n/\(Lit.int k n).wf=true:=by
 obtain⟨n,hcs,_,hw⟩:=DataW.trod_int ht hf;simp at hcs;exact⟨n,hcs,hw⟩
theorem A6p{H:Type}{enc:TypeId×Value->H}{w:World}{fuel:Nat}{x:DataW H×List MemPlace}{v:Value}(hf:DataW.trod enc Tryz.prog w 0 (fun _=>true) true fuel 9 [v]=some x)(hw:∀m∈x.1.weights Tryz.prog 9,m<=reachBytes):∃s:List UInt8,v= .string ⟨s.toArray⟩/\s.length<=140737488351232:=by
 obtain⟨s,hcs,hx,h2⟩:=DataW.trod_string Tryz.underlying9 hf;simp at hcs;subst hcs hx;refine⟨s.data.toList,rfl,hw _ (by simp[DataW.weights])⟩
theorem B4y{H:Type}{enc:TypeId×Value->H}{w:World}{fuel:Nat}{x:DataW H×List MemPlace}{t e:TypeId}{v:Value}(ht:Tryz.prog.underlying t=some (.slice e))(hf:DataW.trod enc Tryz.prog w 0 (fun _=>true) true fuel t [v]=some x):∃a n c,v= .slice a n c:=by
 rcases open_slice ht hf with⟨hcs,_⟩|⟨x',len,c,m,n',D,Pl,hcs,_⟩
 ·simp at hcs;exact⟨none,0,0,hcs⟩
 simp at hcs;exact⟨some x',len,c,hcs⟩
theorem B0b{H:Type}{P:Program}{e:TypeId}:∀{l:List (DataW H)} {d:DataW H},d∈l->∀n∈d.weights P e,n∈DataW.weightsAll P e l
 |d'::r,d,hd,n,hn=>by
  simp only[DataW.weightsAll,List.mem_append]
  rcases List.mem_cons.1 hd with rfl|h
  ·exact Or.inl hn
  exact Or.inr (B0b h n hn)
theorem A8i{H:Type}{enc:TypeId×Value->H}{w:World}{α:Type}{t e:TypeId}{z:Nat}(hz:0<z)(hu:Tryz.prog.underlying t=some (.slice e))(hc:Tryz.prog.cellsOf e=z)(cells:α->List Value)(Q:α->Prop)
  (hitem:∀(fuel:Nat) (cs:List Value) (x:DataW H×List MemPlace),cs.length=z->DataW.trod enc Tryz.prog w 0 (fun _=>true) true fuel e cs=some x->(∀n∈x.1.weights Tryz.prog e,n<=reachBytes)->∃c:α,cs=cells c/\Q c)
  {fuel:Nat} {a:Option Addr} {n cap:Nat} {x:DataW H×List MemPlace} (hf:DataW.trod enc Tryz.prog w 0 (fun _=>true) true fuel t [.slice a n cap]=some x) (hw:∀m∈x.1.weights Tryz.prog t,m<=reachBytes):
  n<=cap/\n<=maxLen/\n*Tryz.prog.bytesOf e<=reachBytes/\∃L:List α,Ss z cells w a n L/\∀c∈L,Q c:=by
 rcases open_slice hu hf with⟨hcs,_⟩|⟨x',len,c,m,n',D,Pl,hcs,_,hl,hm,hmm,hx,hi⟩
 ·simp at hcs;obtain⟨rfl,rfl,rfl⟩:=hcs
  exact⟨by omega,by unfold maxLen;omega,by omega,[],Ss.nil _ _,fun c hc=>by cases hc⟩
 simp at hcs;obtain⟨rfl,rfl,rfl⟩:=hcs;simp only[if_true]at hmm;subst hmm;subst hx
 have hreach:n*Tryz.prog.bytesOf e<=reachBytes:=by
  have h1:=hw ((n+(m-n))*Tryz.prog.bytesOf e) (by simp[DataW.weights,hu]);exact Nat.le_trans (Nat.mul_le_mul_right _ (by omega)) h1
 refine⟨hl,by omega,hreach,?_⟩;by_cases hn:0<n
 ·have hsp:x'.spot=none:=by
   obtain⟨cs',hc',ht⟩:=hi 0 (by omega);rw[hc]at hc';obtain⟨_,hcl,hat⟩:=World.cells?_some hc';have q0:=hat 0 hz;rw[D3c]at q0;have h0:0<cs'.length:=by omega
   rw[List.getElem?_eq_getElem h0]at q0;exact World.cell?_spot q0
  obtain⟨b,off,spot⟩:=x';simp only at hsp;subst hsp
  have key:∀i,i<n->∃c:α,(∀j,j<z->w.cell? ⟨b,off+i*z+j,none⟩=(cells c)[j]?)/\Q c/\(cells c).length=z:=by
   intro i hin;obtain⟨cs',hc',ht⟩:=hi i (by omega);rw[hc]at hc';obtain⟨_,hcl,hat⟩:=World.cells?_some hc'
   obtain⟨c,rfl,hQ⟩:=hitem n' cs' _ hcl ht (fun k hk=>hw k (by
    simp only[DataW.weights,hu,List.mem_cons,List.mem_append];exact Or.inr (Or.inl (B0b (List.mem_map.2 ⟨i,List.mem_range.2 hin,rfl⟩) k hk))))
   refine⟨c,fun j hj=> ?_,hQ,hcl⟩;have q:=hat j hj;rw[D4m]at q;exact q
  obtain⟨L,hL,hat⟩:=D6d n _ key;refine⟨L,⟨hL,fun _=>⟨b,off,rfl,?_,fun i hi j hj=>(hat i hi).1 j hj⟩⟩,fun c hc=> ?_⟩
  ·have q:=(hat 0 (by omega)).1 0 hz;have h0:0<(cells (L[0]'(by omega))).length:=by rw[(hat 0 (by omega)).2.2];exact hz
   rw[List.getElem?_eq_getElem h0]at q;exact World.block_lt_of_cell? w _ q
  obtain⟨i,hi,rfl⟩:=List.getElem_of_mem hc;exact(hat i hi).2.1
 have h0:n=0:=by omega
 subst h0
 exact⟨[],Ss.nil _ _,fun c hc=>by cases hc⟩
end
end Go.Proofs.YtclpkipaehpkdaaGreatDoor
