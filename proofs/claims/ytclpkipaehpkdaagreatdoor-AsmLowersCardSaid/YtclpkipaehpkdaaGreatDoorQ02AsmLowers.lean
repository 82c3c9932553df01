/- asm -/
import Derived.Test.YtclpkipaehpkdaaGreatDoorQ01AsmLowers
import Derived.Test.YtclpkipaehpkdaaGreatDoorQ00AsmLowers
import Derived.Lib.Split
import Derived.Lib.CutLaws
import Derived.Deep.LoopGhost
import Derived.Deep.DeepCutAuto
import Derived.Lib.DecodeN
import Derived.OwnWalk
set_option linter.unusedVariables false
set_option linter.unusedSimpArgs false
set_option maxRecDepth 100000
set_option maxHeartbeats 64000000
namespace Go.Proofs.YtclpkipaehpkdaaGreatDoor
section
open Go.ChangeShapes Go.WideShapes Go.ChangeAt Go.RowKit
structure VW(w:World):Prop where
 m:∃m,w.cell? ⟨0,0,none⟩=some (.int .i64 m)
theorem B8c{w w':World}{a:Addr}{v:Value}(h:w.cell? a=some v)(hb:Below w.heap.size w w'):w'.cell? a=some v:=by
 have hlt:a.block<w.heap.size:=by
  rcases Nat.lt_or_ge a.block w.heap.size with h1|h1
  ·exact h1
  exfalso;have:w.heap[a.block]? =none:=Array.getElem?_eq_none (by omega);simp[World.cell?,this]at h
 rw[<-h];unfold World.cell?;rw[hb.block _ hlt]
theorem VW.below{w w':World}(h:VW w)(hb:Below w.heap.size w w'):VW w':=by
 obtain⟨m,hm⟩:=h;exact⟨m,B8c hm hb⟩
theorem A7u(w:World):∀n,Below w.heap.size w (w.drewN n)
 |0=>brz
 |n+1=>(A7u w n).drew
theorem D1b(w:World):∀n,(w.drewN n).heap=w.heap
 |0=>rfl
 |n+1=>D1b w n
theorem C1i(s:ByteArray):(⟨s.data.toList.toArray⟩:ByteArray)=s:=by cases s;simp
def sp(c:UInt8):List UInt8->List (List UInt8)
 |[]=>[[]]
 |b::l=>if b=c then []::sp c l else match sp c l with|[]=>[[b]]|x::xs=>(b::x)::xs
theorem A7c(c:UInt8):Lib.index [] [c]= -1:=by unfold Lib.index;simp
theorem A5f(b c:UInt8)(l:List UInt8):Lib.index (b::l) [c]=if b=c then 0 else if Lib.index l [c]= -1 then-1 else Lib.index l [c]+1:=by
 rw[Lib.index];by_cases h:b=c
 ·subst h;simp
 have:¬c=b:=fun e=>h e.symm
 simp[h,this]
theorem D3z(c:UInt8):∀s,Lib.index s [c]= -1->sp c s=[s]
 |[],_=>rfl
 |b::l,h=>by
  rw[A5f]at h;split at h
  ·cases h
  next hb=>
  have hg:=Lib.index_ge l [c];split at h
  ·next h1=>simp[sp,hb,D3z c l h1]
  omega
theorem D7y(c:UInt8):∀s (i:Nat),Lib.index s [c]=i->sp c s=s.take i::sp c (s.drop (i+1))
 |[],i,h=>by rw[A7c]at h;omega
 |b::l,i,h=>by
  rw[A5f]at h;split at h
  ·next hb=>
         have:i=0:=by omega
         subst this;simp[sp,hb]
  next hb=>
  have hg:=Lib.index_ge l [c];split at h
  ·omega
  obtain⟨k,rfl⟩:∃k,i=k+1:=⟨i-1,by omega⟩;simp[sp,hb,D7y c l k (by omega)]
theorem D7c(c:UInt8):∀(n:Nat) (s:List UInt8),s.length<=n->Lib.splitK [c] 0 (Lib.count s [c]) s=sp c s/\(sp c s).length=Lib.count s [c]+1:=by
 intro n
 induction n with
 |zero=>
  intro s h;have:s=[]:=List.eq_nil_of_length_eq_zero (by omega);subst this;rw[Lib.count_miss (A7c c)];exact⟨rfl,rfl⟩
 |succ n ih=>
  intro s h;by_cases h1:Lib.index s [c]= -1
  ·rw[Lib.count_miss h1,D3z c s h1];exact⟨rfl,rfl⟩
  have hg:=Lib.index_ge s [c];obtain⟨i,hi⟩:∃i:Nat,Lib.index s [c]=i:=⟨(Lib.index s [c]).toNat,by omega⟩
  have hne:0<s.length:=by
   rcases Nat.eq_zero_or_pos s.length with h0|h0
   ·have:s=[]:=List.eq_nil_of_length_eq_zero h0;subst this;exact absurd (A7c c) h1
   exact h0
  obtain⟨e1,e2⟩:=ih (s.drop (i+1)) (by rw[List.length_drop];omega);rw[Lib.count_hit (by simp) hi,D7y c s i hi];constructor
  ·rw[Nat.add_comm,Lib.splitK,if_neg (by simp[hi]),hi];simp only[Int.toNat_natCast,Nat.add_zero,List.length_singleton];rw[e1]
  simp only[List.length_cons,List.length_nil,Nat.zero_add];rw[e2];omega
theorem D1w(w:World)(s:List UInt8)(c:UInt8)(hs:s.length<=4294967000)(hv:VW w):
  Calls Tryz.prog 84 #[.string ⟨s.toArray⟩,.string ⟨#[c]⟩] w fun e w'=>
   e= .returned (.slice (some ⟨w.heap.size,0,none⟩) (sp c s).length (sp c s).length)/\w'=w.alloc (.cells ((sp c s).map fun x=>Value.string ⟨x.toArray⟩).toArray 9):=by
 obtain⟨m,hm⟩:=hv.m;refine(Tryz.strings_Split ⟨s.toArray⟩ ⟨#[c]⟩ m w (by simp[ByteArray.size];omega) hm (Nat.le_refl 1)).mono ?_;rintro e w' ⟨rfl,rfl⟩;obtain⟨e1,e2⟩:=D7c c s.length s nlz
 have e3:=Lib.splitB_data ⟨#[c]⟩ 0 (Lib.countB ⟨s.toArray⟩ ⟨#[c]⟩) ⟨s.toArray⟩
 have e4:(Lib.splitB ⟨#[c]⟩ 0 (Lib.countB ⟨s.toArray⟩ ⟨#[c]⟩) ⟨s.toArray⟩).map Value.string=(sp c s).map fun x=>Value.string ⟨x.toArray⟩:=by
  rw[<-e1];rw[show Lib.splitK [c] 0 (Lib.count s [c]) s=_ from e3.symm,List.map_map];refine List.map_congr_left fun x _=> ?_
  simp[C1i]
 rw[e2];exact⟨rfl,by rw[e4]⟩
theorem C6u(c:UInt8)(s:List UInt8)(h:Lib.index s [c]= -1):Lib.cut s [c]=(s,[],false):=by unfold Lib.cut;rw[if_neg (by omega)]
theorem C4h(c:UInt8)(s:List UInt8)(i:Nat)(h:Lib.index s [c]=i):Lib.cut s [c]=(s.take i,s.drop (i+1),true):=by unfold Lib.cut;rw[if_pos (by omega),h];simp
theorem E1a(w:World)(s:List UInt8)(c:UInt8)(hs:s.length<=4294967000)(hv:VW w):
  Calls Tryz.prog 96 #[.string ⟨s.toArray⟩,.string ⟨#[c]⟩] w fun e w'=>
   e= .returned (.tuple #[.string ⟨(Lib.cut s [c]).1.toArray⟩,.string ⟨(Lib.cut s [c]).2.1.toArray⟩,.bool (Lib.cut s [c]).2.2])/\Below w.heap.size w w'/\w'.heap=w.heap:=by
 obtain⟨m,hm⟩:=hv.m;refine(Tryz.strings_Cut ⟨s.toArray⟩ ⟨#[c]⟩ m w (by simp[ByteArray.size];omega) hm).mono ?_;rintro e w' ⟨rfl,n,rfl⟩;exact⟨rfl,A7u w n,D1b w n⟩
theorem B9c(xs ys:List UInt8):((⟨xs.toArray⟩:ByteArray)++(⟨ys.toArray⟩:ByteArray))=⟨(xs++ys).toArray⟩:=by
 apply ByteArray.ext;simp
theorem A2s{a b:Bool}(h:a=b):Ending.returned (.bool a)=Ending.returned (.bool b):=by rw[h]
def B0e(n:Nat):Bool:=(decide (97<=n)&&decide (n<=122))||(decide (65<=n)&&decide (n<=90))||(decide (48<=n)&&decide (n<=57))||decide (n=95)||decide (n=36)
theorem C3m(args:Array Value)(w:World):(callFunc 134 args).run Tryz.prog w= .ok (.enter 134 args) w:=by kernel_rfl
theorem C1c(args:Array Value)(w:World):(callFunc 85 args).run Tryz.prog w= .ok (.enter 85 args) w:=by kernel_rfl
theorem D0d(w:World)(n:Nat)(h:n<256):Calls Tryz.prog 134 #[.int .u8 (n:Int)] w fun e w'=>e= .returned (.bool (!B0e n))/\w=w':=by
 go_enter Tryz.func134,Tryz.ntmps134
 go_wp2
 all_goals (go_ret;refine⟨A2s ?_,rfl⟩;rw[Bool.eq_iff_iff];unfold B0e;simp only[Bool.or_eq_true,Bool.and_eq_true,decide_eq_true_eq,beq_iff_eq,Bool.not_eq_true',Bool.not_eq_false',beq_eq_false_iff_ne,ne_eq,Bool.or_eq_false_iff,Bool.and_eq_false_imp,decide_eq_false_iff_not,Bool.false_eq_true,false_iff,true_iff,Bool.not_eq_true,reduceCtorEq]at*;omega)
def B1i(s:List UInt8):Bool:= !s.isEmpty&&s.all fun c=>B0e c.toNat
theorem D6h(w:World)(s:List UInt8)(hl:s.length<=65536):Calls Tryz.prog 86 #[.string ⟨s.toArray⟩] w fun e w'=>e= .returned (.bool (B1i s))/\Below w.heap.size w w':=by
 obtain⟨r,hr⟩:=exz (B1i s);rw[<-hr];have hall:(s.all fun c=>B0e c.toNat)= !(s.any fun c=> !B0e c.toNat):=by rw[List.all_eq_not_any_not]
 unfold B1i at hr;rw[hall]at hr;have HR:=hzz hr;clear hr hall;have HB0:=hzz (Below.refl w.heap.size w)
 cases he:s.isEmpty
 ·obtain⟨c,w1,hcv,hs1,hc1,hb1,hz1⟩:=B3e w s;have HB1:=hzz hb1
  have HCF:=hzz (B4c w1 _ s.length c s 134 (fun c=> !B0e c.toNat) hs1 hl C3m (fun w c=>D0d w c.toNat c.toNat_lt));rw[he]at HR
  generalize(s.any fun c=> !B0e c.toNat)=ok at*;clear hs1 hb1 hl hc1 hz1;go_enter Tryz.func86,Tryz.ntmps86
  go_wp2_with fail
  refine HCF.out.mono ?_;rintro e w' ⟨rfl,rfl⟩
  go_wp2_with fail
  go_ret
  exact⟨A2s (by rw[HR.out];cases ok<;>rfl),HB1.out⟩
 rw[he]at HR;go_enter Tryz.func86,Tryz.ntmps86
 go_wp2_with fail
 go_ret;exact⟨A2s (by rw[HR.out];rfl),HB0.out⟩
theorem C7s(w:World)(s:List UInt8)(hl:s.length<=65536):Calls Tryz.prog 85 #[.string ⟨s.toArray⟩] w fun e w'=>e= .returned (.bool (!B1i s))/\Below w.heap.size w w':=by
 have HW:=hzz (D6h w s hl);generalize B1i s=ok at*;go_enter Tryz.func85,Tryz.ntmps85
 go_wp2_with fail
 refine HW.out.mono ?_;rintro e w' ⟨rfl,hb⟩;have HB:=hzz hb;clear hb
 go_wp2_with fail
 go_ret;exact⟨rfl,HB.out⟩
theorem B6v(w:World)(g cap f:Nat)(xs:List (List UInt8))(p:List UInt8->Bool)(hc:∀(j:Nat) x,xs[j]? =some x->w.cell? ⟨g,j,none⟩=some (.string ⟨x.toArray⟩))(hn:xs.length<=65536)
  (he:∀(args:Array Value) (w:World),(callFunc f args).run Tryz.prog w= .ok (.enter f args) w) (hf:∀(w:World) x,x∈xs->Calls Tryz.prog f #[.string ⟨x.toArray⟩] w fun e w'=>e= .returned (.bool (p x))/\Below w.heap.size w w'):
  Calls Tryz.prog 132 #[.slice (some ⟨g,0,none⟩) xs.length cap,.func (.func f) #[] #[]] w fun e w'=>∃r:Int,e= .returned (.int .i64 r)/\decide (0<=r)=xs.any p/\Below w.heap.size w w':=by
 obtain⟨n,hN⟩:=exz (xs.length);rw[<-hN]at hn⊢;have HN:=hzz hN;have HC:=hzz hc;have HF:=hzz hf;clear hc hf hN;go_enter Tryz.func132,Tryz.ntmps132
 go_wp2_with fail
 go_loopg [8] n (fun gn i wr=>∃j:Nat,j<=n/\gn=n-j/\i= .int .i64 j/\Hid (∀k (h:k<xs.length),k<j->p xs[k]=false)/\Hid (Below w.heap.size w wr))
 case atStart=>exact⟨0,by omega,by omega,by go_num,hzz (fun k h h0=>by omega),hzz brz⟩
 obtain⟨j,hj,rfl,rfl,HG,HB⟩:=hrel;by_cases hlt:j<n
 ·have hjs:j<xs.length:=by rw[<-HN.out];exact hlt
  have q0:wr.cell? ⟨g,j,none⟩=some (.string ⟨(xs[j]).toArray⟩):=B8c (HC.out j _ (List.getElem?_eq_getElem hjs)) HB.out
  have HY:=hzz (show p xs[j]=true->xs.any p=true from fun h=>List.any_eq_true.2 ⟨xs[j],List.getElem_mem hjs,h⟩)
  have HX:=hzz (show p xs[j]=false->∀k (h:k<xs.length),k<j+1->p xs[k]=false from fun h k hk hk2=>by
   rcases Nat.lt_or_ge k j with h1|h1
   ·exact HG.out k hk h1
   obtain rfl:k=j:=by omega
   exact h)
  have HCX:=hzz (HF.out wr _ (List.getElem_mem hjs));have j1:(j:Int)<n:=by omega
  generalize xs[j]=x at*;generalize p x=ok at*;clear hjs
  go_wp2_with fail
  refine HCX.out.mono ?_;rintro e w' ⟨rfl,hb⟩;have HB2:=btz HB hb;clear hb
  cases ok
  ·have HM:=hzz (HX.out rfl)
   go_wp2_with fail
   go_roundg (n-(j+1))
   case measure=>omega
   exact⟨j+1,by omega,rfl,by go_num,HM,HB2⟩
  have HR:=hzz (HY.out rfl)
  go_wp2_with fail
  go_ret;exact⟨_,rfl,by rw[HR.out];simp,HB2.out⟩
 obtain rfl:j=n:=by omega
 have HR:=hzz (show xs.any p=false from by
  rw[List.any_eq_false];intro c hc;obtain⟨k,hk,rfl⟩:=List.getElem_of_mem hc;rw[HG.out k hk (by rw[<-HN.out]at hk;exact hk)];decide)
 go_wp2_with fail
 go_ret;exact⟨_,rfl,by rw[HR.out];rfl,HB.out⟩
theorem B2w(w:World)(g cap f:Nat)(xs:List (List UInt8))(p:List UInt8->Bool)(hc:∀(j:Nat) x,xs[j]? =some x->w.cell? ⟨g,j,none⟩=some (.string ⟨x.toArray⟩))(hn:xs.length<=65536)
  (he:∀(args:Array Value) (w:World),(callFunc f args).run Tryz.prog w= .ok (.enter f args) w) (hf:∀(w:World) x,x∈xs->Calls Tryz.prog f #[.string ⟨x.toArray⟩] w fun e w'=>e= .returned (.bool (p x))/\Below w.heap.size w w'):
  Calls Tryz.prog 83 #[.slice (some ⟨g,0,none⟩) xs.length cap,.func (.func f) #[] #[]] w fun e w'=>e= .returned (.bool (xs.any p))/\Below w.heap.size w w':=by
 have HI:=hzz (B6v w g cap f xs p hc hn he hf);generalize xs.any p=ok at*;generalize xs.length=n at*;clear hc hf he;go_enter Tryz.func83,Tryz.ntmps83
 go_wp2_with fail
 refine HI.out.mono ?_;rintro e w' ⟨r,rfl,hr,hb⟩;have HB:=hzz hb;clear hb
 go_wp2_with fail
 go_ret;exact⟨rfl,HB.out⟩
def classB(s:List UInt8):Bool:=decide (s.length<=64)&&(sp 47 s).all B1i
theorem B7i(c:UInt8):∀(s:List UInt8) x,x∈sp c s->x.length<=s.length
 |[],x,h=>by simp[sp]at h;subst h;simp
 |b::l,x,h=>by
  have ih:=B7i c l;unfold sp at h;split at h
  ·rcases List.mem_cons.1 h with rfl|h
   ·simp
   have:=ih x h;simp;omega
  split at h
  ·simp at h;subst h;simp
  next y ys e=>
  rw[e]at ih
  rcases List.mem_cons.1 h with rfl|h
  ·have:=ih y (by simp);simp;omega
  have:=ih x (by simp[h]);simp;omega
theorem D3x(c:UInt8)(s:List UInt8):(sp c s).length<=s.length+1:=by
 induction s with
 |nil=>simp[sp]
 |cons b l ih=>
  unfold sp;split
  ·simp;omega
  split
  ·simp
  next e=>rw[e]at ih;simp at ih⊢;omega
theorem A7k(w:World)(s:List UInt8)(hl:s.length<=4294967000)(hv:VW w):Calls Tryz.prog 42 #[.string ⟨s.toArray⟩] w fun e w'=>e= .returned (.bool (classB s))/\Below w.heap.size w w':=by
 obtain⟨r,hr⟩:=exz (classB s);rw[<-hr];unfold classB at hr;have hall:(sp 47 s).all B1i= !((sp 47 s).any fun x=> !B1i x):=by rw[List.all_eq_not_any_not]
 rw[hall]at hr;have HR:=hzz hr;clear hr hall;have hsz:(⟨s.toArray⟩:ByteArray).size=s.length:=by simp[ByteArray.size]
 by_cases h64:s.length<=64
 ·have hl2:decide ((s.length:Int)<=64)=true:=by simp;omega
  have HS:=hzz (D1w w s 47 hl hv);have h1:=D3x 47 s;have hb1:Below w.heap.size w (w.alloc (.cells ((sp 47 s).map fun x=>Value.string ⟨x.toArray⟩).toArray 9)):=brz.alloc nlz _
  have HB1:=hzz hb1
  have HC:=hzz (fun W1 (h:W1=w.alloc (.cells ((sp 47 s).map fun x=>Value.string ⟨x.toArray⟩).toArray 9))=>B2w W1 w.heap.size (sp 47 s).length 85 (sp 47 s) (fun x=> !B1i x) (fun j x hx=>by
   subst h;rw[cell_of_row _ w.heap.size j _ _ _ (heap_alloc_last w _)];simp[hx]) (by omega) C1c (fun w x hx=>C7s w x (by have:=B7i 47 s x hx;omega)))
  rw[decide_eq_true h64]at HR;generalize((sp 47 s).any fun x=> !B1i x)=ok at*;generalize(sp 47 s)=xs at*;clear hl hv h64 hb1 h1;go_enter Tryz.func42,Tryz.ntmps42
  go_wp2_with fail
  refine HS.out.mono ?_;rintro e w1 ⟨rfl,hw1⟩;have HC2:=hzz (HC.out w1 hw1);rw[<-hw1]at HB1;clear hw1 HC
  go_wp2_with fail
  refine HC2.out.mono ?_;rintro e w2 ⟨rfl,hb2⟩;have HB2:=btz HB1 hb2;clear hb2
  go_wp2_with fail
  go_ret
  exact⟨A2s (by rw[HR.out];cases ok<;>rfl),HB2.out⟩
 have hl2:decide ((s.length:Int)<=64)=false:=by simp;omega
 have HB0:=hzz (Below.refl w.heap.size w);rw[decide_eq_false h64]at HR;clear hl hv h64;go_enter Tryz.func42,Tryz.ntmps42
 go_wp2_with fail
 go_ret;exact⟨A2s (by rw[HR.out];rfl),HB0.out⟩
def cls:Nat->List UInt8->Bool
 |l,[]=>decide (l≠47)
 |l,c::s=>(B0e c.toNat||(decide (c.toNat=47)&&decide (l≠47)))&&cls c.toNat s
theorem E3g(c:UInt8):c=47↔c.toNat=47:=⟨fun h=>by rw[h];rfl,fun h=>UInt8.toNat_inj.1 h⟩
theorem E2m(c:UInt8)(s:List UInt8):∃x xs,sp c s=x::xs:=by
 cases s with
 |nil=>exact⟨_,_,rfl⟩
 |cons b l=>
 unfold sp;split
 ·exact⟨_,_,rfl⟩
 split
 ·exact⟨_,_,rfl⟩
 exact⟨_,_,rfl⟩
theorem D8h:∀(s:List UInt8) (l:Nat) x xs,sp 47 s=x::xs->cls l s=((if l=47 then B1i x else x.all fun c=>B0e c.toNat)&&xs.all B1i)
 |[],l,x,xs,h=>by
  simp only[sp,List.cons.injEq]at h;obtain⟨rfl,rfl⟩:=h;unfold cls;by_cases hl:l=47<;>simp[hl,B1i]
 |c::s,l,x,xs,h=>by
  obtain⟨y,ys,e⟩:=E2m 47 s;have ih:=D8h s c.toNat y ys e;unfold sp at h;unfold cls;rw[ih];by_cases hc:c=47
  ·rw[if_pos hc]at h;obtain⟨rfl,rfl⟩:=List.cons.inj h;rw[e];have hc2:c.toNat=47:=(E3g c).1 hc;have hw:B0e c.toNat=false:=by rw[hc2];decide
   by_cases hl:l=47<;>simp[hl,hc2,B1i,show B0e 47=false from by decide]
  rw[if_neg hc,e]at h;obtain⟨rfl,rfl⟩:=List.cons.inj h;have hc2:¬c.toNat=47:=fun h=>hc ((E3g c).2 h)
  rw[if_neg hc2];by_cases hl:l=47<;>simp[hl,hc2,B1i,Bool.and_assoc]
theorem B9v(s:List UInt8):classB s=(decide (s.length<=64)&&cls 47 s):=by
 obtain⟨y,ys,e⟩:=E2m 47 s;rw[D8h s 47 y ys e];unfold classB;rw[e];simp
theorem A2y(w:World)(s:List UInt8)(hn:s.length<=281474976710656):Calls Tryz.prog 27 #[.string ⟨s.toArray⟩] w fun e w'=>e= .returned (.bool (classB s))/\w'=w:=by
 obtain⟨n,hN⟩:=exz (s.length);have HLn:=hzz hN;obtain⟨r,hr⟩:=exz (classB s);rw[<-hr];rw[B9v,<-hN]at hr;rw[<-hN]at hn;have HR:=hzz hr
 have hsz:(⟨s.toArray⟩:ByteArray).size=n:=by rw[hN];simp[ByteArray.size]
 clear hr hN;go_enter Tryz.func27,Tryz.ntmps27
 go_wp2_with fail
 go_loopg [3,4] n (fun gn la i wr=>∃j l:Nat,j<=n/\gn=n-j/\la= .int .u8 l/\l<256/\i= .int .i64 j/\Hid (cls 47 s=cls l (s.drop j))/\wr=w)
 case atStart=>exact⟨0,47,by omega,by omega,rfl,by omega,by go_num,hzz rfl,rfl⟩
 obtain⟨j,l,hj,rfl,rfl,hl,rfl,HG,rfl⟩:=hrel;by_cases hlt:j<n
 ·have j1:(j:Int)<n:=by omega
  go_upto_region 6 with fail
  have hjs:j<s.length:=by rw[<-HLn.out];exact hlt
  generalize hc0:(({data:=s.toArray}:ByteArray)[j]'(by rw[hsz];exact hlt)).toNat=c;have hc1:(s[j]'hjs).toNat=c:=hc0
  have hcl:cls 47 s=((B0e c||(decide (c=47)&&decide (l≠47)))&&cls c (s.drop (j+1))):=by
   rw[HG.out,List.drop_eq_getElem_cons hjs,cls,hc1]
  have HF:=hzz (show(B0e c||(decide (c=47)&&decide (l≠47)))=false->r=false from fun h=>by rw[HR.out,hcl,h,Bool.false_and,Bool.and_false])
  have HM:=hzz (show(B0e c||(decide (c=47)&&decide (l≠47)))=true->cls 47 s=cls c (s.drop (j+1))from fun h=>by rw[hcl,h,Bool.true_and])
  have hc2:c<256:=by rw[<-hc1];exact(s[j]'hjs).toNat_lt
  clear hc0 hc1 hjs hcl
  go_wp2_with fail
  all_goals first
   |(go_ret
     exact⟨A2s (HF.out (by unfold B0e;rw[Bool.eq_false_iff];simp only[Bool.or_eq_true,Bool.and_eq_true,decide_eq_true_eq,beq_iff_eq,Bool.not_eq_true',Bool.not_eq_false',decide_eq_false_iff_not,beq_eq_false_iff_ne,bne_iff_ne,bne_eq_false_iff_eq,ne_eq]at*;omega)).symm,rfl⟩)
   |(go_roundg (n-(j+1))
     case measure=>omega
     case rel=>exact⟨j+1,c,by omega,rfl,by go_num,hc2,by go_num,hzz (HM.out (by unfold B0e;simp only[Bool.or_eq_true,Bool.and_eq_true,decide_eq_true_eq,beq_iff_eq,Bool.not_eq_true',Bool.not_eq_false',decide_eq_false_iff_not,beq_eq_false_iff_ne,bne_iff_ne,bne_eq_false_iff_eq,ne_eq]at*;omega)),rfl⟩)
 obtain rfl:j=n:=by omega
 have HQ:=hzz (show r=(decide (j<=64)&&decide (l≠47))from by
  rw[HR.out,HG.out,List.drop_eq_nil_of_le (by rw[<-HLn.out];exact Nat.le_refl _),cls])
 by_cases h1:j<=64
 ·have e1:decide ((j:Int)<=64)=true:=by simp;omega
  have HQ2:=hzz (show r=decide (l≠47) by rw[HQ.out,decide_eq_true h1,Bool.true_and]);clear h1
  go_wp2_with fail
  go_ret;refine⟨A2s ?_,rfl⟩;rw[HQ2.out,Bool.eq_iff_iff];simp only[bne_iff_ne,decide_eq_true_eq,ne_eq];omega
 have e1:decide ((j:Int)<=64)=false:=by simp;omega
 have HQ2:=hzz (show r=false by rw[HQ.out,decide_eq_false h1,Bool.false_and]);clear h1
 go_wp2_with fail
 go_ret;exact⟨A2s HQ2.out.symm,rfl⟩
end
section
open Go.RowKit
def A2j:List UInt8->Nat
 |[]=>0
 |c::s=>if c=91 then A2j s+1 else 0
def C4q(d:Nat):List UInt8->Nat
 |[]=>0
 |c::t=>if 8<d then 0 else if c=73\/(c=74/\d=0)\/(c=66/\0<d)then d+1
  else if c=76 then(if(Lib.cut t [59]).2.2=true/\classB (Lib.cut t [59]).1=true then d+(Lib.cut t [59]).1.length+2 else 0)else 0
theorem A3z(d:Nat)(c:UInt8)(t:List UInt8):C4q d (c::t)=if 8<d then 0 else if c=73\/(c=74/\d=0)\/(c=66/\0<d)then d+1
  else if c=76 then(if(Lib.cut t [59]).2.2=true/\classB (Lib.cut t [59]).1=true then d+(Lib.cut t [59]).1.length+2 else 0)else 0:=rfl
def A8g(s:List UInt8):Nat:=C4q (A2j s) (s.drop (A2j s))
def typeB(s:List UInt8):Bool:= !s.isEmpty&&decide (A8g s=s.length)
def A2m(s:List UInt8):Bool:=decide (s.head? =some 91)&&typeB s
def A7d(s:List UInt8):Bool:= !s.contains 47&&classB s
def A9j:Nat->List UInt8->Option (List UInt8)
 |n,s=>if s=[]\/s.head? =some 41 then some s else
  match n with
  |0=>none
  |n+1=>if A8g s=0 then none else A9j n (s.drop (A8g s))
def C3x(o:Option (List UInt8)):Bool:=match o with
 |none=>false
 |some []=>false
 |some (d::t)=>decide (d=41)&&(decide (t=[86])||typeB t)
def A3k(s:List UInt8):Bool:=
 match s with
 |[]=>false
 |c::r=>decide (c=40)&&C3x (A9j 16 r)
def objR(s:List UInt8):Bool:=decide (3<=s.length)&&(decide (s.head? =some 76)&&(decide (s.getLast? =some 59)&&classB ((s.drop 1).take (s.length-2))))
def C4y(s:List UInt8):Bool:=
 if 8<A2j s then false
 else if 0<A2j s/\s.drop (A2j s)=[66]then true
 else decide (s.drop (A2j s)=[73])||((decide (A2j s=0)&&decide (s.drop (A2j s)=[74]))||objR (s.drop (A2j s)))
def B2c:Nat->Nat->List UInt8->Nat
 |0,_,_=>0
 |f+1,n,s=>if C4y (s.take n)=true then n else B2c f (n+1) s
theorem B6h:∀s:List UInt8,A2j s<=s.length
 |[]=>Nat.le_refl _
 |c::s=>by
  unfold A2j;split
  ·have:=B6h s;simp;omega
  simp
theorem D0k:∀(s:List UInt8) (i:Nat),i<A2j s->s[i]? =some 91
 |[],i,h=>by simp[A2j]at h
 |c::s,i,h=>by
  unfold A2j at h;split at h
  ·next hc=>
   cases i with
   |zero=>simp[hc]
   |succ i=>simpa using D0k s i (by omega)
  omega
theorem B5m:∀(s:List UInt8),s[A2j s]?≠some 91
 |[]=>by simp
 |c::s=>by
  unfold A2j;split
  ·simpa using B5m s
  next h=>simpa using h
theorem D0j(s:List UInt8):s.dropWhile (·==91)=s.drop (A2j s):=by
 induction s with
 |nil=>rfl
 |cons c s ih=>
  unfold A2j;by_cases h:c=91
  ·subst h;simpa using ih
  rw[if_neg h,List.dropWhile_cons_of_neg (by simpa using h)];rfl
theorem B8q{nm:List UInt8}(h:classB nm=true):(59:UInt8)∉nm/\(91:UInt8)∉nm/\nm≠[]:=by
 rw[B9v]at h;simp only[Bool.and_eq_true,decide_eq_true_eq]at h;obtain⟨_,h⟩:=h
 have key:∀(s:List UInt8) (l:Nat),cls l s=true->∀c∈s,B0e c.toNat=true\/c.toNat=47:=by
  intro s
  induction s with
  |nil=>intro l _ c hc;cases hc
  |cons b s ih=>
   intro l hl c hc;simp only[cls,Bool.and_eq_true,Bool.or_eq_true,decide_eq_true_eq]at hl
   rcases List.mem_cons.1 hc with rfl|hc
   ·rcases hl.1 with h1|h1
    ·exact .inl h1
    exact .inr h1.1
   exact ih _ hl.2 c hc
 refine⟨fun hm=> ?_,fun hm=> ?_,fun e=> ?_⟩
 ·have:=key nm 47 h _ hm;revert this;decide
 ·have:=key nm 47 h _ hm;revert this;decide
 subst e;simp[cls]at h
theorem B6i{nm t:List UInt8}(h:(59:UInt8)∉nm):Lib.cut (nm++59::t) [59]=(nm,t,true):=by
 have hi:Lib.index (nm++59::t) [59]=(nm.length:Nat):=by
  induction nm with
  |nil=>rw[List.nil_append,A5f];simp
  |cons c nm ih=>
   rw[List.cons_append,A5f,if_neg (by rintro rfl;exact h (by simp)),ih (fun hm=>h (by simp[hm]))];rw[if_neg (by omega)];simp
 rw[C4h 59 _ _ hi];simp
theorem B3k{s:List UInt8}(h:(Lib.cut s [59]).2.2=true):s=(Lib.cut s [59]).1++59::(Lib.cut s [59]).2.1/\(59:UInt8)∉(Lib.cut s [59]).1:=by
 by_cases h1:Lib.index s [59]= -1
 ·rw[C6u 59 s h1]at h;cases h
 have hg:=Lib.index_ge s [59];obtain⟨i,hi⟩:∃i:Nat,Lib.index s [59]=i:=⟨(Lib.index s [59]).toNat,by omega⟩;rw[C4h 59 s i hi];clear h h1 hg
 induction s generalizing i with
 |nil=>rw[A7c]at hi;omega
 |cons c s ih=>
  rw[A5f]at hi;split at hi
  ·next hc=>
         have:i=0:=by omega
         subst this;subst hc;simp
  next hc=>
  have hg:=Lib.index_ge s [59];split at hi
  ·omega
  obtain⟨k,rfl⟩:∃k,i=k+1:=⟨i-1,by omega⟩;obtain⟨e1,e2⟩:=ih k (by omega);simp only[List.take_succ_cons,List.drop_succ_cons];refine⟨by simpa using e1,fun hm=> ?_⟩
  rcases List.mem_cons.1 hm with h2|h2
  ·exact hc h2.symm
  exact e2 h2
theorem D8u(d:Nat)(b:List UInt8):C4q d b<=d+b.length:=by
 cases b with
 |nil=>simp[C4q]
 |cons c t=>
 rw[A3z];by_cases h8:8<d
 ·rw[if_pos h8];omega
 rw[if_neg h8];by_cases h1:c=73\/(c=74/\d=0)\/(c=66/\0<d)
 ·rw[if_pos h1];simp
 rw[if_neg h1];by_cases h76:c=76
 ·rw[if_pos h76];by_cases h:(Lib.cut t [59]).2.2=true/\classB (Lib.cut t [59]).1=true
  ·rw[if_pos h];have:=congrArg List.length (B3k h.1).1;simp only[List.length_append,List.length_cons]at this⊢;omega
  rw[if_neg h];omega
 rw[if_neg h76];omega
theorem B6a(s:List UInt8):A8g s<=s.length:=by
 unfold A8g;have h1:=D8u (A2j s) (s.drop (A2j s));have h2:=B6h s;rw[List.length_drop]at h1;omega
theorem D7f{u v:List UInt8}(h:A2j u<u.length):A2j (u++v)=A2j u:=by
 induction u with
 |nil=>simp at h
 |cons c u ih=>
  rw[List.cons_append];unfold A2j at h⊢;by_cases hc:c=91
  ·rw[if_pos hc]at h⊢;rw[if_pos hc,ih (by simpa using h)]
  rw[if_neg hc,if_neg hc]
theorem E0b{u:List UInt8}(hu:typeB u=true)(v:List UInt8):A8g (u++v)=u.length:=by
 unfold typeB at hu;simp only[Bool.and_eq_true,Bool.not_eq_true',List.isEmpty_eq_false_iff,decide_eq_true_eq]at hu;obtain⟨hne,hu⟩:=hu
 have hd:A2j u<u.length:=by
  rcases Nat.lt_or_ge (A2j u) u.length with h|h
  ·exact h
  have h2:u.drop (A2j u)=[]:=List.drop_eq_nil_of_le h;unfold A8g at hu;rw[h2]at hu;simp only[C4q]at hu;have:u.length≠0:=fun e=>hne (List.eq_nil_of_length_eq_zero e)
  omega
 have hdr:(u++v).drop (A2j u)=u.drop (A2j u)++v:=List.drop_append_of_le_length (by omega);have e2:(u.drop (A2j u)).length=u.length-A2j u:=List.length_drop;unfold A8g at hu⊢
 rw[D7f hd,hdr];generalize A2j u=d at*;generalize u.drop d=b at*
 cases b with
 |nil=>simp at e2;omega
 |cons c t=>
 rw[List.cons_append];rw[A3z]at hu⊢;split at hu
 ·simp at e2;omega
 next h8=>
 rw[if_neg h8];split at hu
 ·next h1=>rw[if_pos h1];exact hu
 next h1=>
 rw[if_neg h1];split at hu
 ·next h76=>
  rw[if_pos h76];split at hu
  ·next hc=>
   obtain⟨e3,e4⟩:=B3k hc.1
   have e5:t=(Lib.cut t [59]).1++59::[]:=by
    have h7:=congrArg List.length e3;simp only[List.length_append,List.length_cons]at h7 e2;have h8:(Lib.cut t [59]).2.1=[]:=List.eq_nil_of_length_eq_zero (by omega);rw[h8]at e3;exact e3
   have e6:Lib.cut (t++v) [59]=((Lib.cut t [59]).1,v,true):=by
    have h9:t++v=(Lib.cut t [59]).1++59::v:=by
     rw[show(Lib.cut t [59]).1++59::v=((Lib.cut t [59]).1++59::[])++v by simp,<-e5]
    rw[h9];exact B6i e4
   rw[e6];simp only[true_and];rw[if_pos hc.2];exact hu
  simp at e2;omega
 simp at e2;omega
theorem D5h{s:List UInt8}(h:A8g s≠0):typeB (s.take (A8g s))=true:=by
 have hl:=B6a s;have hlen:(s.take (A8g s)).length=A8g s:=by rw[List.length_take];omega
 have hd0:A2j s<A8g s:=by
  unfold A8g at h⊢;generalize s.drop (A2j s)=b at*;generalize A2j s=d at*
  cases b with
  |nil=>simp[C4q]at h
  |cons c t=>
  rw[A3z]at h⊢;split at h
  ·exact absurd rfl h
  next h8=>
  rw[if_neg h8];split at h
  ·next h1=>rw[if_pos h1];omega
  next h1=>
  rw[if_neg h1];split at h
  ·next h76=>
   rw[if_pos h76];split at h
   ·next hc=>rw[if_pos hc];omega
   exact absurd rfl h
  exact absurd rfl h
 have hdims:A2j (s.take (A8g s))=A2j s:=by
  have key:∀(s:List UInt8) (n:Nat),A2j s<n->A2j (s.take n)=A2j s:=by
   intro s
   induction s with
   |nil=>intro n _;simp
   |cons c s ih=>
    intro n hn
    cases n with
    |zero=>omega
    |succ n=>
    rw[List.take_succ_cons];unfold A2j at hn⊢;by_cases hc:c=91
    ·rw[if_pos hc]at hn⊢;rw[if_pos hc,ih n (by omega)]
    rw[if_neg hc,if_neg hc]
  exact key s _ hd0
 unfold typeB;simp only[Bool.and_eq_true,Bool.not_eq_true',List.isEmpty_eq_false_iff,decide_eq_true_eq];refine⟨fun e=>by rw[e]at hlen;simp at hlen;omega,?_⟩;rw[hlen]
 have hds:(s.take (A8g s)).drop (A2j s)=(s.drop (A2j s)).take (A8g s-A2j s):=by rw[List.drop_take]
 unfold A8g;rw[show A2j (s.take (C4q (A2j s) (s.drop (A2j s))))=A2j s from hdims]
 rw[show(s.take (C4q (A2j s) (s.drop (A2j s)))).drop (A2j s)=(s.drop (A2j s)).take (A8g s-A2j s)from hds];have hcl:A8g s=C4q (A2j s) (s.drop (A2j s)):=rfl;rw[<-hcl];unfold A8g at h
 rw[hcl]at hd0⊢;generalize s.drop (A2j s)=b at*;generalize A2j s=d at*;clear hl hlen hdims hds hcl
 cases b with
 |nil=>simp[C4q]at h
 |cons c t=>
 have h8:¬8<d:=fun h8=>h (by rw[A3z,if_pos h8])
 by_cases h1:c=73\/(c=74/\d=0)\/(c=66/\0<d)
 ·have e:C4q d (c::t)=d+1:=by rw[A3z,if_neg h8,if_pos h1]
  rw[e,show d+1-d=1 by omega,List.take_succ_cons,List.take_zero];rw[A3z,if_neg h8,if_pos h1]
 by_cases h76:c=76
 ·by_cases hc:(Lib.cut t [59]).2.2=true/\classB (Lib.cut t [59]).1=true
  ·have e:C4q d (c::t)=d+(Lib.cut t [59]).1.length+2:=by rw[A3z,if_neg h8,if_neg h1,if_pos h76,if_pos hc]
   obtain⟨e3,e4⟩:=B3k hc.1
   have et:t.take ((Lib.cut t [59]).1.length+1)=(Lib.cut t [59]).1++59::[]:=by
    rw[e3];rw[show(Lib.cut ((Lib.cut t [59]).1++59::(Lib.cut t [59]).2.1) [59]).1=(Lib.cut t [59]).1 by rw[<-e3]];rw[List.take_append,List.take_of_length_le (by omega)];simp
   rw[e,show d+(Lib.cut t [59]).1.length+2-d=((Lib.cut t [59]).1.length+1)+1 by omega,List.take_succ_cons,et];rw[A3z,if_neg h8,if_neg h1,if_pos h76,B6i e4];simp only[true_and]
   rw[if_pos hc.2]
  exact absurd (by rw[A3z,if_neg h8,if_neg h1,if_pos h76,if_neg hc]) h
 exact absurd (by rw[A3z,if_neg h8,if_neg h1,if_neg h76]) h
theorem B5s(c:UInt8)(t:List UInt8):objR (c::t)=(decide (3<=t.length+1)&&(decide (c=76)&&(decide ((c::t).getLast? =some 59)&&classB (t.take (t.length+1-2))))):=by
 unfold objR;simp
theorem D9f(t:List UInt8):objR (76::t)=true↔(Lib.cut t [59]).2.2=true/\classB (Lib.cut t [59]).1=true/\t.length=(Lib.cut t [59]).1.length+1:=by
 rw[B5s];simp only[Bool.and_eq_true,decide_eq_true_eq,true_and];constructor
 ·rintro⟨h3,hl,hc⟩;have hne:t≠[]:=fun e=>by subst e;simp at h3
  have hl2:t.getLast? =some 59:=by
   rw[List.getLast?_cons]at hl
   cases h:t.getLast? with
   |none=>rw[List.getLast?_eq_none_iff]at h;exact absurd h hne
   |some x=>rw[h]at hl;simpa using hl
  obtain⟨m,hm⟩:=List.getLast?_eq_some_iff.1 hl2
  have hmt:t.take (t.length+1-2)=m:=by
   rw[hm];simp
  rw[hmt]at hc
  have e:Lib.cut t [59]=(m,[],true):=by
   rw[hm];exact B6i (B8q hc).1
  rw[e];exact⟨rfl,hc,by rw[hm];simp⟩
 rintro⟨h1,h2,h3⟩;obtain⟨e3,e4⟩:=B3k h1;have hne:=(B8q h2).2.2;generalize(Lib.cut t [59]).1=nm at*
 have e5:t=nm++[59]:=by
  have h7:=congrArg List.length e3;simp only[List.length_append,List.length_cons]at h7;have h8:(Lib.cut t [59]).2.1=[]:=List.eq_nil_of_length_eq_zero (by omega);rw[h8]at e3;exact e3
 subst e5;have:0<nm.length:=List.length_pos_iff.2 hne;refine⟨by simp;omega,by rw[<-List.cons_append,List.getLast?_append];rfl,?_⟩;simpa using h2
theorem B8m(s:List UInt8):C4y s=typeB s:=by
 have hd:=B6h s;have hst:=B5m s;have hlen:s.length=A2j s+(s.drop (A2j s)).length:=by rw[List.length_drop];omega
 have hemp:s.isEmpty=decide (s.length=0):=by cases s<;>simp
 unfold C4y typeB A8g;rw[hemp,hlen];generalize s.drop (A2j s)=b at*;generalize A2j s=d at*;clear hd hst hlen hemp;by_cases h8:8<d
 ·rw[if_pos h8]
  have:C4q d b=0:=by
   cases b with
   |nil=>rfl
   |cons c t=>rw[A3z,if_pos h8]
  rw[this];have h1:decide (0=d+b.length)=false:=decide_eq_false (by omega);rw[h1];simp
 rw[if_neg h8]
 cases b with
 |nil=>
  have hc0:C4q d []=0:=rfl;rw[hc0];by_cases h0:d=0
  ·subst h0;simp[objR]
  have h1:decide (0=d+([]:List UInt8).length)=false:=decide_eq_false (by simp;omega);rw[h1];simp[objR]
 |cons c t=>
 have hz:decide (d+(c::t).length=0)=false:=decide_eq_false (by simp);have hne1:decide (0=d+(t.length+1))=false:=decide_eq_false (by omega)
 have hlt:(decide (d+1=d+(t.length+1)))=decide (t=[]):=by
  apply decide_eq_decide.2;rw[<-List.length_eq_zero_iff];omega
 rw[hz,A3z,if_neg h8,B5s];simp only[Bool.not_false,Bool.true_and,List.length_cons,List.cons.injEq];by_cases h73:c=73
 ·subst h73;have a1:¬(0<d/\(73:UInt8)=66/\t=[]):=fun h=>absurd h.2.1 (by decide)
  rw[if_pos (Or.inl rfl),hlt,if_neg a1];simp
 by_cases h74:c=74
 ·subst h74;have a1:¬(0<d/\(74:UInt8)=66/\t=[]):=fun h=>absurd h.2.1 (by decide)
  rw[if_neg a1];by_cases h0:d=0
  ·subst h0;rw[if_pos (Or.inr (Or.inl ⟨rfl,rfl⟩)),hlt];simp
  have a2:¬((74:UInt8)=73\/((74:UInt8)=74/\d=0)\/((74:UInt8)=66/\0<d)):=by
   rintro(h|⟨_,h⟩|⟨h,_⟩)
   ·exact absurd h (by decide)
   ·exact h0 h
   exact absurd h (by decide)
  have a3:¬((74:UInt8)=76):=by decide
  rw[if_neg a2,if_neg a3,hne1];simp[h0]
 by_cases h66:c=66
 ·subst h66;have a3:¬((66:UInt8)=76):=by decide
  by_cases h0:0<d
  ·rw[if_pos (Or.inr (Or.inr ⟨rfl,h0⟩)),hlt];by_cases ht:t=[]
   ·rw[if_pos ⟨h0,rfl,ht⟩];simp[ht]
   have a4:¬(0<d/\(66:UInt8)=66/\t=[]):=fun h=>ht h.2.2
   rw[if_neg a4];simp[ht]
  have a2:¬((66:UInt8)=73\/((66:UInt8)=74/\d=0)\/((66:UInt8)=66/\0<d)):=by
   rintro(h|⟨h,_⟩|⟨_,h⟩)
   ·exact absurd h (by decide)
   ·exact absurd h (by decide)
   exact h0 h
  have a4:¬(0<d/\(66:UInt8)=66/\t=[]):=fun h=>h0 h.1
  rw[if_neg a2,if_neg a3,if_neg a4,hne1];simp
 have a2:¬(c=73\/(c=74/\d=0)\/(c=66/\0<d)):=by
  rintro(h|⟨h,_⟩|⟨h,_⟩)
  ·exact h73 h
  ·exact h74 h
  exact h66 h
 have a4:¬(0<d/\c=66/\t=[]):=fun h=>h66 h.2.1
 rw[if_neg a2,if_neg a4];by_cases h76:c=76
 ·subst h76;rw[if_pos rfl];have hb:=D9f t;rw[B5s]at hb;have hb2:(decide ((76:UInt8)=73/\t=[])||(decide (d=0)&&decide ((76:UInt8)=74/\t=[])))=false:=by simp
  rw[<-Bool.or_assoc,hb2,Bool.false_or,Bool.eq_iff_iff,hb,decide_eq_true_iff];constructor
  ·rintro⟨b1,b2,b3⟩;rw[if_pos ⟨b1,b2⟩];omega
  intro h;by_cases hc:(Lib.cut t [59]).2.2=true/\classB (Lib.cut t [59]).1=true
  ·rw[if_pos hc]at h;exact⟨hc.1,hc.2,by omega⟩
  rw[if_neg hc]at h;omega
 rw[if_neg h76,hne1];simp[h73,h74,h76]
theorem D1p{s:List UInt8}{k:Nat}(hk:k<=s.length)(h:typeB (s.take k)=true):A8g s=k:=by
 have:=E0b h (s.drop k);rw[List.take_append_drop,List.length_take]at this;omega
theorem C1v:∀(f n:Nat) (s:List UInt8),n+f=s.length+1->(A8g s=0\/n<=A8g s)->B2c f n s=A8g s
 |0,n,s,hn,h=>by
  have:=B6a s;simp only[B2c]
  rcases h with h|h<;>omega
 |f+1,n,s,hn,h=>by
  unfold B2c;rw[B8m];by_cases ht:typeB (s.take n)=true
  ·rw[if_pos ht];exact(D1p (by omega) ht).symm
  rw[if_neg ht];refine C1v f (n+1) s (by omega) ?_
  rcases h with h|h
  ·exact .inl h
  rcases Nat.lt_or_ge n (A8g s)with h1|h1
  ·exact .inr h1
  have:n=A8g s:=by omega
  by_cases h0:A8g s=0
  ·exact .inl h0
  exact absurd (by rw[this];exact D5h h0) ht
theorem D5y(s:List UInt8):B2c s.length 1 s=A8g s:=C1v s.length 1 s (by omega) (by omega)
end
section
open Go.ChangeShapes Go.WideShapes Go.ChangeAt Go.RowKit
theorem A4n(s:List UInt8):(⟨s.toArray⟩:ByteArray).size=s.length:=by simp[ByteArray.size]
theorem C6y(w:World)(s:List UInt8)(n:Nat)(h:n<=s.length)(hs:s.length<=281474976710656):
  (Instr.slice 9 (.string ⟨s.toArray⟩) none (some (.int .i64 (n:Nat))) none).run Tryz.prog w= .ok (.string ⟨(s.take n).toArray⟩) w:=by
 rw[run_slice_string_to_if w 9 _ .i64 _ Tryz.underlying9,if_pos (by rw[A4n];omega)];congr 2;apply ByteArray.ext;rw[Int.toNat_natCast];apply Array.toList_inj.1;rw[Lib.extract_data];simp
theorem A7e(w:World)(s:List UInt8)(n:Nat)(h:n<=s.length)(hs:s.length<=281474976710656):
  (Instr.slice 9 (.string ⟨s.toArray⟩) (some (.int .i64 (n:Nat))) none none).run Tryz.prog w= .ok (.string ⟨(s.drop n).toArray⟩) w:=by
 rw[run_slice_string_from_if w 9 _ .i64 _ Tryz.underlying9,if_pos (by rw[A4n];omega)];congr 2;apply ByteArray.ext;rw[Int.toNat_natCast];apply Array.toList_inj.1;rw[Lib.extract_data];simp
 rw[A4n,List.take_of_length_le (by rw[List.length_drop];omega)]
theorem C1t(w:World)(s:List UInt8)(n m:Nat)(h:n<=m)(hm:m<=s.length)(hs:s.length<=281474976710656):
  (Instr.slice 9 (.string ⟨s.toArray⟩) (some (.int .i64 (n:Nat))) (some (.int .i64 (m:Nat))) none).run Tryz.prog w= .ok (.string ⟨((s.take m).drop n).toArray⟩) w:=by
 rw[run_slice_string w 9 _ .i64 .i64 _ _ Tryz.underlying9 (by omega) (by omega) (by rw[A4n];omega)];congr 2;apply ByteArray.ext;rw[Int.toNat_natCast,Int.toNat_natCast];apply Array.toList_inj.1
 rw[Lib.extract_data];simp;rw[List.drop_take]
theorem E0k(t:List UInt8):(Lib.cut t [59]).1.length<=t.length:=by
 by_cases h:(Lib.cut t [59]).2.2=true
 ·have:=congrArg List.length (B3k h).1;simp only[List.length_append,List.length_cons]at this;omega
 by_cases h1:Lib.index t [59]= -1
 ·rw[C6u 59 t h1];exact Nat.le_refl _
 have hg:=Lib.index_ge t [59];obtain⟨i,hi⟩:∃i:Nat,Lib.index t [59]=i:=⟨(Lib.index t [59]).toNat,by omega⟩;rw[C4h 59 t i hi]at h;exact absurd rfl h
theorem D4f(w:World)(s:List UInt8)(hl:s.length<=65536)(hv:VW w):Calls Tryz.prog 51 #[.string ⟨s.toArray⟩] w fun e w'=>e= .returned (.string ⟨(s.take (A8g s)).toArray⟩)/\Below w.heap.size w w':=by
 obtain⟨d,hd⟩:=exz (A2j s);obtain⟨B,hB⟩:=exz (s.drop d);have hdl:d<=s.length:=by rw[hd];exact B6h s
 have hBl:B.length=s.length-d:=by rw[hB,List.length_drop]
 have hcut:A8g s=C4q d B:=by unfold A8g;rw[hB,hd]
 have HT:=hzz (show Calls Tryz.prog 95 #[.string ⟨s.toArray⟩,.string ⟨#[91]⟩] w fun e w'=>e= .returned (.string ⟨B.toArray⟩)/\w'=w by
  have:=Tryz.strings_TrimLeft_one ⟨s.toArray⟩ 91 (by decide) w;rw[show Lib.trimLeftB (⟨s.toArray⟩:ByteArray).data.toList 91=B by unfold Lib.trimLeftB;rw[hB,hd];exact D0j s]at this;exact this)
 have hto:=fun w' n (h:n<=s.length)=>C6y w' s n h (by omega)
 have hsub:(s.length:Int) -(B.length:Int)=(d:Int):=by omega
 have hv0:=hv;have HV:=hzz hv;have HB0:=hzz (Below.refl w.heap.size w);have HBL:=hzz hBl;rw[hcut];clear hv hcut hd hBl
 cases B with
 |nil=>
  clear hto hB;go_enter Tryz.func51,Tryz.ntmps51
  go_wp2_with fail
  refine HT.out.mono ?_;rintro e w1 ⟨rfl,rfl⟩
  go_wp2_with fail
  go_ret;exact⟨rfl,HB0.out⟩
 |cons c t=>
 have htl:t.length+1=s.length-d:=HBL.out;have hsub2:(s.length:Int) -((t.length:Int)+1)=(d:Int):=by omega
 have hto1:=fun w'=>show(Instr.slice 9 (.string ⟨s.toArray⟩) none (some (.int .i64 ((d:Int)+1))) none).run Tryz.prog w'= .ok (.string ⟨(s.take (d+1)).toArray⟩) w' from hto w' (d+1) (by omega)
 have hfr:=fun w'=>show(Instr.slice 9 (.string ⟨(c::t).toArray⟩) (some (.int .i64 1)) none none).run Tryz.prog w'= .ok (.string ⟨t.toArray⟩) w' from A7e w' (c::t) 1 (by simp) (by simp;omega)
 have htl2:t.length<=65536:=by omega
 have hix:(({data:=(c::t).toArray}:ByteArray)[0]'(by rw[A4n];simp)).toNat=c.toNat:=rfl;have HTO:=hzz hto;have HTL:=hzz htl;rw[A3z]
 have hne:∀k:Nat,k<256->c≠UInt8.ofNat k->((c.toNat:Int)==(k:Int))=false:=fun k hk h=>by
  rw[beq_eq_false_iff_ne];intro e;apply h;apply UInt8.toNat_inj.1;rw[UInt8.toNat_ofNat_of_lt' (by simpa using hk)];omega
 clear hto hB htl hsub;by_cases h8:8<d
 ·rw[if_pos h8];have d8:(8:Int)<d:=by omega
  clear h8 hne hto1 hfr;go_enter Tryz.func51,Tryz.ntmps51
  go_wp2_with fail
  refine HT.out.mono ?_;rintro e w1 ⟨rfl,rfl⟩
  go_wp2_with fail
  go_ret;exact⟨rfl,HB0.out⟩
 rw[if_neg h8];have d8:¬(8:Int)<d:=by omega
 have d9:(d:Int)<=8:=by omega
 have d0:(0:Int)<=d:=by omega
 have hyes:∀k:Nat,k<256->c=UInt8.ofNat k->((c.toNat:Int)==(k:Int))=true:=fun k hk h=>by
  rw[beq_iff_eq,h,UInt8.toNat_ofNat_of_lt' (by simpa using hk)]
 have hto2:=fun(h:d=0) w'=>show(Instr.slice 9 (.string ⟨s.toArray⟩) none (some (.int .i64 1)) none).run Tryz.prog w'= .ok (.string ⟨(s.take (d+1)).toArray⟩) w' from by
  have:=HTO.out w' (d+1) (by omega);subst h;exact this
 by_cases h1:c=73\/(c=74/\d=0)\/(c=66/\0<d)
 ·rw[if_pos h1];by_cases h73:c=73
  ·have q73:((c.toNat:Int)==73)=true:=hyes 73 (by decide) h73;clear h8 h1 h73 hne hyes hfr hto2;go_enter Tryz.func51,Tryz.ntmps51
   go_wp2_with fail
   refine HT.out.mono ?_;rintro e w1 ⟨rfl,rfl⟩
   go_wp2_with fail
   go_ret;exact⟨rfl,HB0.out⟩
  have q73:((c.toNat:Int)==73)=false:=hne 73 (by decide) h73;by_cases h74:c=74/\d=0
  ·have q74:((c.toNat:Int)==74)=true:=hyes 74 (by decide) h74.1;have z0:((d:Int)==0)=true:=by rw[h74.2];rfl
   clear h8 h1 h73 h74 hne hyes hfr hto2;go_enter Tryz.func51,Tryz.ntmps51
   go_wp2_with fail
   refine HT.out.mono ?_;rintro e w1 ⟨rfl,rfl⟩
   go_wp2_with fail
   go_ret;exact⟨rfl,HB0.out⟩
  have h66:c=66/\0<d:=by
   rcases h1 with h|h|h
   ·exact absurd h h73
   ·exact absurd h h74
   exact h
  have q74:((c.toNat:Int)==74)=false:=hne 74 (by decide) (by rw[h66.1];decide);have q66:((c.toNat:Int)==66)=true:=hyes 66 (by decide) h66.1;have d1:(0:Int)<d:=by omega
  clear h8 h1 h73 h74 h66 hne hyes hfr hto2;go_enter Tryz.func51,Tryz.ntmps51
  go_wp2_with fail
  refine HT.out.mono ?_;rintro e w1 ⟨rfl,rfl⟩
  go_wp2_with fail
  go_ret;exact⟨rfl,HB0.out⟩
 rw[if_neg h1];have q73:((c.toNat:Int)==73)=false:=hne 73 (by decide) (fun h=>h1 (.inl h));have HN74:=hzz (fun(h:¬d=0)=>show((d:Int)==0)=false by rw[beq_eq_false_iff_ne];omega)
 by_cases h76:c=76
 ·rw[if_pos h76];have q76:((c.toNat:Int)==76)=true:=hyes 76 (by decide) h76;have q74:((c.toNat:Int)==74)=false:=hne 74 (by decide) (by rw[h76];decide)
  have q66:((c.toNat:Int)==66)=false:=hne 66 (by decide) (by rw[h76];decide);have hcut:=E1a w t 59 (by omega) hv0;have hnl:=E0k t;have hyl:=fun h=>congrArg List.length (@B3k t h).1
  obtain⟨⟨nm,r,ok⟩,hct⟩:∃R,Lib.cut t [59]=R:=⟨_,rfl⟩;rw[hct]at hcut hnl hyl⊢;simp only[List.length_append,List.length_cons]at hcut hnl hyl⊢;have HCT:=hzz hcut
  have HIC:=hzz (fun w h=>A7k w nm (by omega) h);clear hcut hct
  cases ok with
  |false=>
   rw[if_neg (fun h=>absurd h.1 (by decide))];clear h8 h1 h76 hne hyes hyl hto2 HIC;go_enter Tryz.func51,Tryz.ntmps51
   go_wp2_with fail
   refine HT.out.mono ?_;rintro e w1 ⟨rfl,rfl⟩
   go_wp2_with fail
   refine HCT.out.mono ?_;rintro e w2 ⟨rfl,hb2,_⟩;have HB2:=hzz hb2;clear hb2
   go_wp2_with fail
   go_ret;exact⟨rfl,HB2.out⟩
  |true=>
  have hy:=hyl rfl
  cases hcb:classB nm with
  |false=>
   rw[hcb]at HIC;rw[if_neg (fun h=>absurd h.2 (by decide))];clear h8 h1 h76 hne hyes hyl hto2 hcb hy;go_enter Tryz.func51,Tryz.ntmps51
   go_wp2_with fail
   refine HT.out.mono ?_;rintro e w1 ⟨rfl,rfl⟩
   go_wp2_with fail
   refine HCT.out.mono ?_;rintro e w2 ⟨rfl,hb2,_⟩;have HB2:=hzz hb2;clear hb2
   go_wp2_with fail
   refine(HIC.out w2 (HV.out.below HB2.out)).mono ?_;rintro e w3 ⟨rfl,hb3⟩;have HB3:=btz HB2 hb3;clear hb3
   go_wp2_with fail
   go_ret;exact⟨rfl,HB3.out⟩
  |true=>
  rw[hcb]at HIC;rw[if_pos ⟨rfl,rfl⟩]
  have hto3:=fun w'=>show(Instr.slice 9 (.string ⟨s.toArray⟩) none (some (.int .i64 ((d:Int)+(nm.length:Int)+2))) none).run Tryz.prog w'= .ok (.string ⟨(s.take (d+nm.length+2)).toArray⟩) w' from HTO.out w' (d+nm.length+2) (by have:=HTL.out;omega)
  have b1:(nm.length:Int)<=65536:=by omega
  clear h8 h1 h76 hne hyes hyl hto2 hto1 hcb hy;go_enter Tryz.func51,Tryz.ntmps51
  go_wp2_with fail
  refine HT.out.mono ?_;rintro e w1 ⟨rfl,rfl⟩
  go_wp2_with fail
  refine HCT.out.mono ?_;rintro e w2 ⟨rfl,hb2,_⟩;have HB2:=hzz hb2;clear hb2
  go_wp2_with fail
  refine(HIC.out w2 (HV.out.below HB2.out)).mono ?_;rintro e w3 ⟨rfl,hb3⟩;have HB3:=btz HB2 hb3;clear hb3
  go_wp2_with fail
  go_ret;exact⟨rfl,HB3.out⟩
 rw[if_neg h76];have q76:((c.toNat:Int)==76)=false:=hne 76 (by decide) h76;by_cases h74:c=74
 ·have q74:((c.toNat:Int)==74)=true:=hyes 74 (by decide) h74;have z0:=HN74.out (fun h=>h1 (.inr (.inl ⟨h74,h⟩)))
  have q66:((c.toNat:Int)==66)=false:=hne 66 (by decide) (by rw[h74];decide);clear h8 h1 h74 h76 hne hyes hfr hto1 hto2;go_enter Tryz.func51,Tryz.ntmps51
  go_wp2_with fail
  refine HT.out.mono ?_;rintro e w1 ⟨rfl,rfl⟩
  go_wp2_with fail
  go_ret;exact⟨rfl,HB0.out⟩
 have q74:((c.toNat:Int)==74)=false:=hne 74 (by decide) h74;by_cases h66:c=66
 ·have q66:((c.toNat:Int)==66)=true:=hyes 66 (by decide) h66;have d1:¬(0:Int)<d:=fun h=>h1 (.inr (.inr ⟨h66,by omega⟩))
  clear h8 h1 h74 h76 h66 hne hyes hfr hto1 hto2;go_enter Tryz.func51,Tryz.ntmps51
  go_wp2_with fail
  refine HT.out.mono ?_;rintro e w1 ⟨rfl,rfl⟩
  go_wp2_with fail
  go_ret;exact⟨rfl,HB0.out⟩
 have q66:((c.toNat:Int)==66)=false:=hne 66 (by decide) h66;clear h8 h1 h74 h76 h66 hne hyes hfr hto1 hto2;go_enter Tryz.func51,Tryz.ntmps51
 go_wp2_with fail
 refine HT.out.mono ?_;rintro e w1 ⟨rfl,rfl⟩
 go_wp2_with fail
 go_ret;exact⟨rfl,HB0.out⟩
def A6r(x:List UInt8):Value:= .string ⟨x.toArray⟩
theorem D8j(s:List UInt8)(n:Nat)(h:n<=s.length):(s.take n==s)=decide (n=s.length):=by
 rw[Bool.eq_iff_iff,beq_iff_eq,decide_eq_true_iff];constructor
 ·intro e;have:=congrArg List.length e;rw[List.length_take]at this;omega
 intro e;rw[e,List.take_length]
theorem A3n(w:World)(s:List UInt8)(hl:s.length<=65536)(hv:VW w):Calls Tryz.prog 23 #[.string ⟨s.toArray⟩] w fun e w'=>e= .returned (.bool (typeB s))/\Below w.heap.size w w':=by
 have HC:=hzz (D4f w s hl hv);have HB0:=hzz (Below.refl w.heap.size w);have he:=D8j s (A8g s) (B6a s)
 cases s with
 |nil=>
  clear he;go_enter Tryz.func23,Tryz.ntmps23
  go_wp2_with fail
  go_ret;exact⟨rfl,HB0.out⟩
 |cons c t=>
 obtain⟨r,hr⟩:=exz (decide (A8g (c::t)=(c::t).length));have HT:=hzz (show typeB (c::t)=r by rw[hr];rfl);rw[<-hr]at he;clear hr hl;generalize(c::t).take (A8g (c::t))=u at*
 go_enter Tryz.func23,Tryz.ntmps23
 go_wp2_with fail
 refine HC.out.mono ?_;rintro e w1 ⟨rfl,hb1⟩;have HB1:=hzz hb1;clear hb1
 go_wp2_with fail
 go_ret;exact⟨A2s HT.out.symm,HB1.out⟩
theorem B0r(n:Nat)(s:List UInt8)(h:s=[]\/s.head? =some 41):A9j n s=some s:=by
 unfold A9j;rw[if_pos h]
theorem B0w(c:UInt8)(t:List UInt8)(h:¬c=41):A9j 0 (c::t)=none:=by
 have:¬(c::t=[]\/(c::t).head? =some 41):=by simp[h]
 unfold A9j;rw[if_neg this]
theorem B0h(n:Nat)(c:UInt8)(t:List UInt8)(h:¬c=41):A9j (n+1) (c::t)=if A8g (c::t)=0 then none else A9j n ((c::t).drop (A8g (c::t))):=by
 have:¬(c::t=[]\/(c::t).head? =some 41):=by simp[h]
 rw[A9j,if_neg this]
theorem B7j(r:List UInt8):A3k (40::r)=C3x (A9j 16 r):=by
 simp[A3k]
def D2a(b:Bool)(w:World)(e:Ending)(w':World):Prop:=(∃v1 v2,e= .returned (.tuple #[v1,v2,.int .i64 (if b then 0 else 8)]))/\Below w.heap.size w w'
theorem C2g:C9y 86 9 (.string ⟨#[]⟩) 16:=⟨Tryz.underlying86,by kernel_rfl,rfl⟩
theorem C8v(w:World)(s:List UInt8)(hl:s.length<=65536)(hv:VW w):Calls Tryz.prog 97 #[.string ⟨s.toArray⟩] w (D2a (A3k s) w):=by
 have HV:=hzz hv;have HB0:=hzz (Below.refl w.heap.size w);have HP:=hzz (fun w (s:List UInt8)=>Tryz.strings_CutPrefix ⟨s.toArray⟩ ⟨#[40]⟩ w)
 have HP2:=hzz (fun w (s:List UInt8)=>Tryz.strings_CutPrefix ⟨s.toArray⟩ ⟨#[41]⟩ w);clear hv;by_cases h40:s.head? =some 40
 ·obtain⟨r,rfl⟩:∃r,s=40::r:=by
   cases s with
   |nil=>simp at h40
   |cons c r=>simp at h40;exact⟨r,by rw[h40]⟩
  rw[B7j];have hp:=HP.out w (40::r)
  rw[show Lib.trimPrefix (⟨(40::r).toArray⟩:ByteArray).data.toList (⟨#[40]⟩:ByteArray).data.toList=r by simp[Lib.trimPrefix,Lib.hasPrefix],show Lib.hasPrefix (⟨(40::r).toArray⟩:ByteArray).data.toList (⟨#[40]⟩:ByteArray).data.toList=true by simp[Lib.hasPrefix]]at hp
  have HP1:=hzz hp;have hrl:r.length<=65536:=by simp at hl;omega
  obtain⟨A0,hA0⟩:=exz (A9j 16 r);have HA0:=hzz hA0;rw[<-hA0];obtain⟨T,hT⟩:=exz (C3x A0);have HT0:=hzz hT;rw[<-hT];clear hp HP h40 hl hA0 hT;go_enter Tryz.func97,Tryz.ntmps97
  go_wp2_with fail
  refine HP1.out.mono ?_;rintro e w1 ⟨rfl,rfl⟩
  go_wp2_with fail
  go_loopg [5,7] 17 (fun gn sv av wr=>∃(k:Nat) (r:List UInt8) (L:List (List UInt8)) (a:Option Addr) (c:Nat),k<=16/\gn=17-k/\sv= .string ⟨r.toArray⟩/\av= .slice a k c/\r.length<=65536/\Hid (A9j (16-k) r=A0)/\Hid (wr.ownsRow w1.heap.size 9 1 (.slice a k c) k (L.map A6r))/\Hid (Below w1.heap.size w1 wr))
  case atStart=>exact⟨0,r,[],none,0,by omega,by omega,rfl,rfl,hrl,hzz HA0.out.symm,hzz (World.ownsRow_nil _ _ _ _),HB0⟩
  obtain⟨k,r,L,a,c,hk,rfl,rfl,rfl,hrl,HA,HO,HB⟩:=hrel
  cases r with
  |nil=>
   have hT:T=false:=by rw[HT0.out,<-HA.out,B0r _ _ (.inl rfl)];rfl
   subst hT;have hp:=HP2.out wr []
   rw[show Lib.trimPrefix (⟨([]:List UInt8).toArray⟩:ByteArray).data.toList (⟨#[41]⟩:ByteArray).data.toList=[]from rfl,show Lib.hasPrefix (⟨([]:List UInt8).toArray⟩:ByteArray).data.toList (⟨#[41]⟩:ByteArray).data.toList=false from rfl]at hp
   have HP3:=hzz hp;clear hp HP2
   go_wp2_with fail
   refine HP3.out.mono ?_;rintro e w2 ⟨rfl,rfl⟩
   go_wp2_with fail
   go_ret3;exact⟨⟨_,_,rfl⟩,HB.out⟩
  |cons d t=>
  have hix:(({data:=(d::t).toArray}:ByteArray)[0]'(by rw[A4n];simp)).toNat=d.toNat:=rfl;by_cases h41:d=41
  ·have q41:((d.toNat:Int)==41)=true:=by rw[h41];rfl
   have hA:A0=some (d::t):=by rw[<-HA.out,B0r _ _ (.inr (by rw[h41];rfl))]
   have hp:=HP2.out wr (d::t)
   rw[show Lib.trimPrefix (⟨(d::t).toArray⟩:ByteArray).data.toList (⟨#[41]⟩:ByteArray).data.toList=t by subst h41;simp[Lib.trimPrefix,Lib.hasPrefix],show Lib.hasPrefix (⟨(d::t).toArray⟩:ByteArray).data.toList (⟨#[41]⟩:ByteArray).data.toList=true by subst h41;simp[Lib.hasPrefix]]at hp
   have HP3:=hzz hp;have HTB:=hzz (show T=(decide (t=[86])||typeB t) by rw[HT0.out,hA,h41];simp[C3x]);have htl:t.length<=65536:=by simp at hrl;omega
   have HTY:=hzz (fun w h=>A3n w t htl h);obtain⟨y,hy⟩:=exz (typeB t);rw[<-hy]at HTB HTY;clear hp HP2 hA h41 hrl hy;by_cases h86:t=[86]
   ·have hT:T=true:=by rw[HTB.out,decide_eq_true h86,Bool.true_or]
    subst hT h86
    go_wp2_with fail
    refine HP3.out.mono ?_;rintro e w2 ⟨rfl,rfl⟩
    go_wp2_with fail
    go_ret3;exact⟨⟨_,_,rfl⟩,HB.out⟩
   have hT:T=y:=by rw[HTB.out,decide_eq_false h86,Bool.false_or]
   subst hT;have he:(t==[86])=false:=by simpa using h86
   clear h86
   go_wp2_with fail
   refine HP3.out.mono ?_;rintro e w2 ⟨rfl,rfl⟩
   go_wp2_with fail
   refine(HTY.out w2 (HV.out.below HB.out)).mono ?_;rintro e w3 ⟨rfl,hb3⟩;have HB3:=btz HB hb3;clear hb3
   cases T
   ·go_wp2_with fail
    go_ret3;exact⟨⟨_,_,rfl⟩,HB3.out⟩
   go_wp2_with fail
   go_ret3;exact⟨⟨_,_,rfl⟩,HB3.out⟩
  have q41:((d.toNat:Int)==41)=false:=by
   rw[beq_eq_false_iff_ne];intro h;exact h41 (UInt8.toNat_inj.1 (by rw[show(41:UInt8).toNat=41 from rfl];omega))
  obtain⟨m,hm⟩:=exz (A8g (d::t));have hml:=B6a (d::t);have HCU:=hzz (D4f wr (d::t) hrl (HV.out.below HB.out));rw[<-hm]at HCU hml;by_cases h0:m=0
  ·have hT:T=false:=by
    rw[HT0.out,<-HA.out];by_cases hk6:k=16
    ·subst hk6;rw[B0w d t h41];rfl
    rw[show 16-k=(15-k)+1 by omega,B0h _ d t h41,<-hm,if_pos h0];rfl
   subst hT;rw[h0,List.take_zero]at HCU;clear HA hm hml h0 h41 HP2
   go_wp2_with fail
   refine HCU.out.mono ?_;rintro e w2 ⟨rfl,hb2⟩;have HB2:=btz HB hb2;clear hb2
   go_wp2_with fail
   go_ret3;exact⟨⟨_,_,rfl⟩,HB2.out⟩
  obtain⟨m1,hm1⟩:∃m1,m=m1+1:=⟨m-1,by omega⟩;have HU:=hzz (show(d::t).take m=d::t.take m1 by rw[hm1,List.take_succ_cons]);rw[HU.out]at HCU
  have HUL:=hzz (show(t.take m1).length=m1 by rw[List.length_take];simp at hml;omega);by_cases hk6:k=16
  ·have hT:T=false:=by
    rw[HT0.out,<-HA.out];subst hk6;rw[B0w d t h41];rfl
   subst hT;have k16:((k:Int)==16)=true:=by rw[hk6];rfl
   generalize t.take m1=u at*;clear HA hm hml h0 h41 HP2 hk6 hk
   go_wp2_with fail
   refine HCU.out.mono ?_;rintro e w2 ⟨rfl,hb2⟩;have HB2:=btz HB hb2;clear hb2
   go_wp2_with fail
   go_ret3;exact⟨⟨_,_,rfl⟩,HB2.out⟩
  have k16:((k:Int)==16)=false:=by rw[beq_eq_false_iff_ne];omega
  have HA2:=hzz (show A9j (16-(k+1)) ((d::t).drop m)=A0 by
   rw[<-HA.out,show 16-k=(16-(k+1))+1 by omega,B0h _ d t h41,<-hm,if_neg h0])
  have hfr:=fun w'=>show(Instr.slice 9 (.string ⟨(d::t).toArray⟩) (some (.int .i64 ((m1:Int)+1))) none none).run Tryz.prog w'= .ok (.string ⟨((d::t).drop m).toArray⟩) w' from by
   have:=A7e w' (d::t) m hml (by omega);subst hm1;exact this
  have HDL:=hzz (show((d::t).drop m).length<=65536 by rw[List.length_drop];omega);have HOD:=hzz (fun W=>(A1p (w':=W) HO.out));have hul:=HUL.out;generalize(d::t).drop m=r2 at*
  generalize t.take m1=u at*;subst hul;have k15:k<=15:=by omega
  have hk0:(0:Int)<=(u.length:Int)+1:=by omega
  clear hm hml h0 h41 HP2 hk6 hk hm1 HA HU HUL
  go_wp2_with fail
  refine HCU.out.mono ?_;rintro e w2 ⟨rfl,hb2⟩;have HB2:=btz HB hb2;have HO2:=hzz (HOD.out w2 hb2);clear hb2 HOD
  go_wp2_with fail
  go_region_law ((refine B0g C2g (by rfl) _ _ (by rfl) w1.heap.size _ _ _ (by rfl) HO2.out.drew _ 1 _ (by rfl) (by rfl) (by rfl) (by omega) (by unfold maxLen;omega) HB2.out.size ?_;intro v3 w3 hown3 hg3 hb3))
  obtain⟨a3,c3,rfl,_,_⟩:=Sl.ofOwn (enc:=A6r) (xs:=L++[d::u]) (by rw[List.map_append];exact hown3)
  have HO3:=hzz (show w3.ownsRow w1.heap.size 9 1 (.slice a3 (k+1) c3) (k+1) ((L++[d::u]).map A6r) by rw[List.map_append];exact hown3);have HB3:=hzz (HB2.out.trans ((brz.drew).trans hb3))
  clear hown3 hg3 hb3
  go_wp2_with fail
  go_roundg (17-(k+1))
  case measure=>omega
  exact⟨k+1,r2,L++[d::u],a3,c3,by omega,rfl,rfl,rfl,HDL.out,HA2,HO3,HB3⟩
 have hT:A3k s=false:=by
  cases s with
  |nil=>rfl
  |cons c r=>
  have:¬c=40:=fun h=>h40 (by rw[h];rfl)
  simp[A3k,this]
 rw[hT];have hp:=HP.out w s
 rw[show Lib.hasPrefix (⟨s.toArray⟩:ByteArray).data.toList (⟨#[40]⟩:ByteArray).data.toList=false by
  cases s with
  |nil=>rfl
  |cons c r=>
  have:¬c=40:=fun h=>h40 (by rw[h];rfl)
  simp[Lib.hasPrefix,List.isPrefixOf,Ne.symm this]]at hp
 have HP1:=hzz hp;clear hp HP hT h40;go_enter Tryz.func97,Tryz.ntmps97
 go_wp2_with fail
 refine HP1.out.mono ?_;rintro e w1 ⟨rfl,rfl⟩
 go_wp2_with fail
 go_ret3;exact⟨⟨_,_,rfl⟩,HB0.out⟩
def D1j(c:List UInt8):List UInt8:=76::(c++[59])
def B5v(t:List UInt8):Bool:=decide (2<=t.length)&&(decide (t.head? =some 76)&&decide (t.getLast? =some 59))
def C6f(t:List UInt8):List UInt8:=if B5v t then(t.take (t.length-1)).drop 1 else []
theorem D1d(s:List UInt8)(c:UInt8):Lib.hasPrefix s [c]=decide (s.head? =some c):=by
 cases s with
 |nil=>rfl
 |cons d t=>
 rw[Bool.eq_iff_iff];simp[Lib.hasPrefix,List.isPrefixOf];exact eq_comm
theorem E0w(s:List UInt8)(c:UInt8):Lib.hasSuffix s [c]=decide (s.getLast? =some c):=by
 rw[Bool.eq_iff_iff,decide_eq_true_iff,Lib.hasSuffix,List.isSuffixOf_iff_suffix];constructor
 ·rintro⟨q,rfl⟩;simp
 intro h;obtain⟨q,hq⟩:=List.getLast?_eq_some_iff.1 h;exact⟨q,hq.symm⟩
theorem C7y(w:World)(s:List UInt8)(hl:s.length<=65536):Calls Tryz.prog 105 #[.string ⟨s.toArray⟩] w fun e w'=>e= .returned (.string ⟨(D1j s).toArray⟩)/\w'=w:=by
 have n1:¬9223372036854775807<1+s.length:=by omega
 have n2:¬9223372036854775807<1+s.length+1:=by omega
 have he:((⟨#[76]⟩:ByteArray)++(⟨s.toArray⟩:ByteArray))++(⟨#[59]⟩:ByteArray)=⟨(D1j s).toArray⟩:=by
  rw[show(⟨#[76]⟩:ByteArray)=⟨[76].toArray⟩from rfl,show(⟨#[59]⟩:ByteArray)=⟨[59].toArray⟩from rfl,B9c,B9c];rfl
 have HE:=hzz he;clear he;go_enter Tryz.func105,Tryz.ntmps105
 go_wp2_with fail
 go_ret;exact⟨by rw[<-HE.out];rfl,rfl⟩
theorem A8z(w:World)(s:List UInt8)(hl:s.length<=65536)(hv:VW w):Calls Tryz.prog 49 #[.string ⟨s.toArray⟩] w fun e w'=>e= .returned (.bool (A2m s))/\Below w.heap.size w w':=by
 have hp:=Tryz.strings_HasPrefix ⟨s.toArray⟩ ⟨#[91]⟩ w;rw[show Lib.hasPrefix (⟨s.toArray⟩:ByteArray).data.toList (⟨#[91]⟩:ByteArray).data.toList=decide (s.head? =some 91)from D1d s 91]at hp
 obtain⟨y,hy⟩:=exz (decide (s.head? =some 91));have HR:=hzz (show A2m s=(y&&typeB s) by rw[hy];rfl);rw[<-hy]at hp;have HP:=hzz hp;have HT:=hzz (A3n w s hl hv)
 have HB0:=hzz (Below.refl w.heap.size w);generalize A2m s=R at*;generalize typeB s=T at*;clear hp hy hv;go_enter Tryz.func49,Tryz.ntmps49
 go_wp2_with fail
 refine HP.out.mono ?_;rintro e w1 ⟨rfl,rfl⟩
 cases y
 ·go_wp2_with fail
  go_ret;exact⟨A2s (by rw[HR.out];rfl),HB0.out⟩
 go_wp2_with fail
 refine HT.out.mono ?_;rintro e w2 ⟨rfl,hb2⟩;have HB2:=hzz hb2;clear hb2
 go_wp2_with fail
 go_ret;exact⟨A2s (by rw[HR.out];rfl),HB2.out⟩
theorem A5p(w:World)(s:List UInt8)(hl:s.length<=65536)(hv:VW w):Calls Tryz.prog 52 #[.string ⟨s.toArray⟩] w fun e w'=>e= .returned (.bool (A3k s))/\Below w.heap.size w w':=by
 have HM:=hzz (C8v w s hl hv);generalize A3k s=T at*;clear hv hl
 cases T
 ·go_enter Tryz.func52,Tryz.ntmps52
  go_wp2_with fail
  refine HM.out.mono ?_;rintro e w1 ⟨⟨v1,v2,rfl⟩,hb⟩;simp only[Bool.false_eq_true,if_false]
  go_wp2_with fail
  go_ret;exact⟨rfl,hb⟩
 go_enter Tryz.func52,Tryz.ntmps52
 go_wp2_with fail
 refine HM.out.mono ?_;rintro e w1 ⟨⟨v1,v2,rfl⟩,hb⟩;simp only[if_true]
 go_wp2_with fail
 go_ret;exact⟨rfl,hb⟩
theorem C0e:∀(s:List UInt8),decide (0<=Lib.indexByte s 47)=s.contains 47
 |[]=>rfl
 |c::s=>by
  have ih:=C0e s;have hg:=Lib.indexByte_ge s 47;rw[List.contains_cons,<-ih,Lib.indexByte];by_cases h:c=47
  ·subst h;simp
  have h1:(c==47)=false:=by simpa using h
  have h2:((47:UInt8)==c)=false:=by simpa using Ne.symm h
  rw[h1,h2,Bool.false_or];simp only[Bool.false_eq_true,if_false];by_cases h3:Lib.indexByte s 47= -1
  ·rw[h3];rfl
  rw[if_neg (by simpa using h3)];apply decide_eq_decide.2;omega
theorem A5n(w:World)(s:List UInt8)(hl:s.length<=65536)(hv:VW w):Calls Tryz.prog 17 #[.string ⟨s.toArray⟩] w fun e w'=>e= .returned (.bool (A7d s))/\Below w.heap.size w w':=by
 have hp:=Tryz.strings_Contains_one ⟨s.toArray⟩ 47 w;rw[show decide (0<=Lib.indexByte (⟨s.toArray⟩:ByteArray).data.toList 47)=s.contains 47 from C0e s]at hp;obtain⟨y,hy⟩:=exz (s.contains 47)
 have HR:=hzz (show A7d s=(!y&&classB s) by rw[hy];rfl);rw[<-hy]at hp;have HP:=hzz hp;have HT:=hzz (A7k w s (by omega) hv);have HB0:=hzz (Below.refl w.heap.size w)
 generalize A7d s=R at*;generalize classB s=T at*;clear hp hy hv;go_enter Tryz.func17,Tryz.ntmps17
 go_wp2_with fail
 refine HP.out.mono ?_;rintro e w1 ⟨rfl,rfl⟩
 cases y
 ·go_wp2_with fail
  refine HT.out.mono ?_;rintro e w2 ⟨rfl,hb2⟩;have HB2:=hzz hb2;clear hb2
  go_wp2_with fail
  go_ret;exact⟨A2s (by rw[HR.out];rfl),HB2.out⟩
 go_wp2_with fail
 go_ret;exact⟨A2s (by rw[HR.out];rfl),HB0.out⟩
theorem C4m(w:World)(s:List UInt8)(hl:s.length<=65536):Calls Tryz.prog 124 #[.string ⟨s.toArray⟩] w fun e w'=>e= .returned (.tuple #[.string ⟨(C6f s).toArray⟩,.bool (B5v s)])/\w'=w:=by
 have hp:=fun w=>Tryz.strings_HasPrefix ⟨s.toArray⟩ ⟨#[76]⟩ w
 rw[show Lib.hasPrefix (⟨s.toArray⟩:ByteArray).data.toList (⟨#[76]⟩:ByteArray).data.toList=decide (s.head? =some 76)from D1d s 76]at hp
 have hq:=fun w=>Tryz.strings_HasSuffix ⟨s.toArray⟩ ⟨#[59]⟩ w (by rw[A4n];omega)
 rw[show Lib.hasSuffix (⟨s.toArray⟩:ByteArray).data.toList (⟨#[59]⟩:ByteArray).data.toList=decide (s.getLast? =some 59)from E0w s 59]at hq
 have HK:B5v s=(decide (2<=s.length)&&(decide (s.head? =some 76)&&decide (s.getLast? =some 59))):=rfl;generalize decide (s.head? =some 76)=p1 at*;generalize decide (s.getLast? =some 59)=p2 at*
 have HP:=hzz hp;have HQ:=hzz hq;by_cases h2:s.length<2
 ·have n2:(s.length:Int)<2:=by omega
  have hk:B5v s=false:=by rw[HK,decide_eq_false (by omega)];rfl
  have hvv:C6f s=[]:=by unfold C6f;rw[hk];rfl
  rw[hk,hvv];clear hp hq HK h2 hk hvv;go_enter Tryz.func124,Tryz.ntmps124
  go_wp2_with fail
  go_ret2;exact⟨rfl,rfl⟩
 have n2:¬(s.length:Int)<2:=by omega
 rw[decide_eq_true (by omega),Bool.true_and]at HK
 have hmd:=fun w'=>show(Instr.slice 9 (.string ⟨s.toArray⟩) (some (.int .i64 1)) (some (.int .i64 ((s.length:Int) -1))) none).run Tryz.prog w'= .ok (.string ⟨((s.take (s.length-1)).drop 1).toArray⟩) w' from by
  have:=C1t w' s 1 (s.length-1) (by omega) (by omega) (by omega);rw[show(((s.length-1:Nat)):Int)=(s.length:Int) -1 by omega]at this;exact this
 have hvv:C6f s=if B5v s then(s.take (s.length-1)).drop 1 else []:=rfl
 generalize C6f s=V at*;generalize B5v s=B at*;generalize(s.take (s.length-1)).drop 1=M at*;clear hp hq h2
 cases p1
 ·have hB:B=false:=HK;subst hB;simp only[Bool.false_eq_true,if_false]at hvv;subst hvv;clear HK;go_enter Tryz.func124,Tryz.ntmps124
  go_wp2_with fail
  refine(HP.out w).mono ?_;rintro e w1 ⟨rfl,rfl⟩
  go_wp2_with fail
  go_ret2;exact⟨rfl,rfl⟩
 cases p2
 ·have hB:B=false:=HK;subst hB;simp only[Bool.false_eq_true,if_false]at hvv;subst hvv;clear HK;go_enter Tryz.func124,Tryz.ntmps124
  go_wp2_with fail
  refine(HP.out w).mono ?_;rintro e w1 ⟨rfl,rfl⟩
  go_wp2_with fail
  refine(HQ.out w1).mono ?_;rintro e w2 ⟨rfl,rfl⟩
  go_wp2_with fail
  go_ret2;exact⟨rfl,rfl⟩
 have hB:B=true:=HK;subst hB;simp only[if_true]at hvv;subst hvv;clear HK;go_enter Tryz.func124,Tryz.ntmps124
 go_wp2_with fail
 refine(HP.out w).mono ?_;rintro e w1 ⟨rfl,rfl⟩
 go_wp2_with fail
 refine(HQ.out w1).mono ?_;rintro e w2 ⟨rfl,rfl⟩
 go_wp2_with fail
 go_ret2;exact⟨rfl,rfl⟩
theorem B8i(w:World)(s:List UInt8)(i:Nat)(h:i<s.length):(Instr.index 9 (.string ⟨s.toArray⟩) (.int .i64 (i:Nat))).run Tryz.prog w= .ok (.int .u8 (s[i].toNat:Int)) w:=by
 have h1:(i:Int)<s.length:=by omega
 have h2:(⟨s.toArray⟩:ByteArray).size=s.length:=A4n s;have h3:(({data:=s.toArray}:ByteArray)[i]'(by rw[A4n];exact h)).toNat=s[i].toNat:=rfl
 simp[go_sem,Instr.index,Tryz.underlying9,h,h1,h2,h3]
theorem D5b(w:World)(s:List UInt8)(hl:s.length<=65536):Calls Tryz.prog 64 #[.string ⟨s.toArray⟩] w fun e w'=>e= .returned (.bool (objR s))/\w'=w:=by
 by_cases h3:3<=s.length
 ·have i0:=fun w'=>show(Instr.index 9 (.string ⟨s.toArray⟩) (.int .i64 0)).run Tryz.prog w'=_ from B8i w' s 0 (by omega)
  have i1:=fun w'=>show(Instr.index 9 (.string ⟨s.toArray⟩) (.int .i64 ((s.length:Int) -1))).run Tryz.prog w'= .ok (.int .u8 ((s[s.length-1]'(by omega)).toNat:Int)) w' from by
   have:=B8i w' s (s.length-1) (by omega);rw[show(((s.length-1:Nat)):Int)=(s.length:Int) -1 by omega]at this;exact this
  have hmd:=fun w'=>show(Instr.slice 9 (.string ⟨s.toArray⟩) (some (.int .i64 1)) (some (.int .i64 ((s.length:Int) -1))) none).run Tryz.prog w'= .ok (.string ⟨((s.drop 1).take (s.length-2)).toArray⟩) w' from by
   have:=C1t w' s 1 (s.length-1) (by omega) (by omega) (by omega);rw[show(((s.length-1:Nat)):Int)=(s.length:Int) -1 by omega,List.drop_take]at this;exact this
  have HC:=hzz (fun w=>A2y w ((s.drop 1).take (s.length-2)) (by rw[List.length_take,List.length_drop];omega))
  have hO:objR s=(decide (s[0]=76)&&(decide (s[s.length-1]=59)&&classB ((s.drop 1).take (s.length-2)))):=by
   unfold objR;rw[decide_eq_true h3,Bool.true_and];congr 1
   ·rw[List.head?_eq_getElem?,List.getElem?_eq_getElem (by omega)];simp
   congr 1;rw[List.getLast?_eq_getElem?,List.getElem?_eq_getElem (by omega)];simp
  have HO:=hzz hO;have n3:decide ((3:Int)<=s.length)=true:=by simp;omega
  have hyn:∀(c:UInt8) (k:Nat),k<256->((c.toNat:Int)==(k:Int))=decide (c=UInt8.ofNat k):=fun c k hk=>by
   rw[Bool.eq_iff_iff,beq_iff_eq,decide_eq_true_iff];constructor
   ·intro h;apply UInt8.toNat_inj.1;rw[UInt8.toNat_ofNat_of_lt' (by simpa using hk)];omega
   rintro rfl;rw[UInt8.toNat_ofNat_of_lt' (by simpa using hk)]
  generalize(s.drop 1).take (s.length-2)=M at*;generalize objR s=R at*;generalize s[0]=a at*;generalize s[s.length-1]=b at*
  have ya:((a.toNat:Int)==76)=decide (a=76):=hyn a 76 (by decide);have yb:((b.toNat:Int)==59)=decide (b=59):=hyn b 59 (by decide);generalize decide (a=76)=x at*
  generalize decide (b=59)=y at*;clear hyn hO h3
  cases x
  ·go_enter Tryz.func64,Tryz.ntmps64
   go_wp2_with fail
   go_ret;exact⟨A2s (by rw[HO.out];rfl),rfl⟩
  cases y
  ·go_enter Tryz.func64,Tryz.ntmps64
   go_wp2_with fail
   go_ret;exact⟨A2s (by rw[HO.out];rfl),rfl⟩
  go_enter Tryz.func64,Tryz.ntmps64
  go_wp2_with fail
  refine(HC.out w).mono ?_;rintro e w1 ⟨rfl,rfl⟩
  go_wp2_with fail
  go_ret;exact⟨A2s (by rw[HO.out];rfl),rfl⟩
 have n3:decide ((3:Int)<=s.length)=false:=by simp;omega
 have HO:=hzz (show objR s=false by unfold objR;rw[decide_eq_false h3];rfl);generalize objR s=R at*;clear h3;go_enter Tryz.func64,Tryz.ntmps64
 go_wp2_with fail
 go_ret;exact⟨A2s HO.out.symm,rfl⟩
theorem A7p(w:World)(s:List UInt8)(hl:s.length<=65536):Calls Tryz.prog 28 #[.string ⟨s.toArray⟩] w fun e w'=>e= .returned (.bool (typeB s))/\w'=w:=by
 rw[<-B8m];obtain⟨D,hD⟩:=exz (A2j s);have hdl:D<=s.length:=by rw[hD];exact B6h s
 have HAT:=hzz (fun(i:Nat) (h:i<D) (h2:i<s.length)=>show s[i]=91 by
  have:=D0k s i (by omega);rw[List.getElem?_eq_getElem h2]at this;exact Option.some.inj this)
 have HST:=hzz (fun(h2:D<s.length)=>show ¬s[D]=91 from fun e=>by
  have:=B5m s;subst hD;rw[List.getElem?_eq_getElem h2,e]at this;exact this rfl)
 obtain⟨B,hB⟩:=exz (s.drop D)
 have hR:C4y s=if 8<D then false else if 0<D/\B=[66]then true else decide (B=[73])||((decide (D=0)&&decide (B=[74]))||objR B):=by rw[hB,hD];rfl
 have HO:=hzz (fun w=>D5b w B (by rw[hB,List.length_drop];omega));have hfr:=fun w'=>A7e w' s D hdl (by omega)
 rw[<-hB]at hfr;have HFR:=hzz hfr;have b66:(B==[66])=decide (B=[66]):=by rw[Bool.eq_iff_iff,beq_iff_eq,decide_eq_true_iff]
 have b73:(B==[73])=decide (B=[73]):=by rw[Bool.eq_iff_iff,beq_iff_eq,decide_eq_true_iff]
 have b74:(B==[74])=decide (B=[74]):=by rw[Bool.eq_iff_iff,beq_iff_eq,decide_eq_true_iff]
 have HIX:=hzz (fun w' i h=>B8i w' s i h);have HR:=hzz hR
 have hR2:∀(p66 p73 p74 o:Bool),p66=decide (B=[66])->p73=decide (B=[73])->p74=decide (B=[74])->o=objR B->C4y s=if 8<D then false else if 0<D/\p66=true then true else p73||((decide (D=0)&&p74)||o):=by
  rintro _ _ _ _ rfl rfl rfl rfl;rw[HR.out];simp
 have HR2:=hzz hR2;obtain⟨p66,h66⟩:∃p,p=decide (B=[66]):=⟨_,rfl⟩;obtain⟨p73,h73⟩:∃p,p=decide (B=[73]):=⟨_,rfl⟩;obtain⟨p74,h74⟩:∃p,p=decide (B=[74]):=⟨_,rfl⟩
 obtain⟨o,ho⟩:∃p,p=objR B:=⟨_,rfl⟩;have HR3:=hzz (HR2.out p66 p73 p74 o h66 h73 h74 ho);rw[<-h66]at b66;rw[<-h73]at b73;rw[<-h74]at b74;rw[<-ho]at HO;generalize C4y s=R at*
 clear h66 h73 h74 ho hR hR2 HR2 HR hfr hB hD;go_enter Tryz.func28,Tryz.ntmps28
 go_wp2_with fail
 go_loopg [3] D (fun gn dv wr=>∃k:Nat,k<=D/\gn=D-k/\dv= .int .i64 k/\wr=w)
 case atStart=>exact⟨0,by omega,by omega,by go_num,rfl⟩
 obtain⟨k,hk,rfl,rfl,rfl⟩:=hrel;by_cases hlt:k<D
 ·have k1:(k:Int)<s.length:=by omega
  have hix:=fun w'=>HIX.out w' k (by omega)
  rw[HAT.out k hlt (by omega)]at hix;have hix2:=fun w'=>show(Instr.index 9 (.string ⟨s.toArray⟩) (.int .i64 (k:Nat))).run Tryz.prog w'= .ok (.int .u8 91) w' from hix w'
  clear hix
  go_wp2_with fail
  go_roundg (D-(k+1))
  case measure=>omega
  exact⟨k+1,by omega,rfl,by go_num,rfl⟩
 have hkD:k=D:=by omega
 subst hkD;have hfr:=HFR.out;by_cases hend:k<s.length
 ·have k1:(k:Int)<s.length:=by omega
  have hix:=fun w'=>HIX.out w' k hend
  have hne:=HST.out hend;generalize s[k]=c at*
  have q91:((c.toNat:Int)==91)=false:=by
   rw[beq_eq_false_iff_ne];intro h;exact hne (UInt8.toNat_inj.1 (by rw[show(91:UInt8).toNat=91 from rfl];omega))
  clear hne hlt;by_cases h8:8<k
  ·have d8:(8:Int)<k:=by omega
   have hRf:R=false:=by rw[HR3.out,if_pos h8]
   subst hRf;clear h8
   go_wp2_with fail
   go_ret;exact⟨rfl,rfl⟩
  have d8:¬(8:Int)<k:=by omega
  by_cases h0:0<k
  ·have d0:(0:Int)<k:=by omega
   have dz:((k:Int)==0)=false:=by rw[beq_eq_false_iff_ne];omega
   cases p66
   ·have hRf:R=(p73||o):=by rw[HR3.out,if_neg h8,if_neg (fun h=>by cases h.2),decide_eq_false (by omega),Bool.false_and,Bool.false_or]
    cases p73
    ·have hRf2:R=o:=hRf;subst hRf2;clear h8 h0 hRf
     go_wp2_with fail
     refine(HO.out wr).mono ?_;rintro e w1 ⟨rfl,rfl⟩
     go_wp2_with fail
     go_ret;exact⟨rfl,rfl⟩
    have hRf2:R=true:=hRf;subst hRf2;clear h8 h0 hRf
    go_wp2_with fail
    go_ret;exact⟨rfl,rfl⟩
   have hRf:R=true:=by rw[HR3.out,if_neg h8,if_pos ⟨h0,rfl⟩]
   subst hRf;clear h8 h0
   go_wp2_with fail
   go_ret;exact⟨rfl,rfl⟩
  have d0:¬(0:Int)<k:=by omega
  have dz:((k:Int)==0)=true:=by rw[beq_iff_eq];omega
  have hRf:R=(p73||(p74||o)):=by rw[HR3.out,if_neg h8,if_neg (fun h=>h0 h.1),decide_eq_true (by omega),Bool.true_and]
  cases p73
  ·cases p74
   ·have hRf2:R=o:=hRf;subst hRf2;clear h8 h0 hRf
    go_wp2_with fail
    refine(HO.out wr).mono ?_;rintro e w1 ⟨rfl,rfl⟩
    go_wp2_with fail
    go_ret;exact⟨rfl,rfl⟩
   have hRf2:R=true:=hRf;subst hRf2;clear h8 h0 hRf
   go_wp2_with fail
   go_ret;exact⟨rfl,rfl⟩
  have hRf2:R=true:=hRf;subst hRf2;clear h8 h0 hRf
  go_wp2_with fail
  go_ret;exact⟨rfl,rfl⟩
 have k1:¬(k:Int)<s.length:=by omega
 clear hlt;by_cases h8:8<k
 ·have d8:(8:Int)<k:=by omega
  have hRf:R=false:=by rw[HR3.out,if_pos h8]
  subst hRf;clear h8
  go_wp2_with fail
  go_ret;exact⟨rfl,rfl⟩
 have d8:¬(8:Int)<k:=by omega
 by_cases h0:0<k
 ·have d0:(0:Int)<k:=by omega
  have dz:((k:Int)==0)=false:=by rw[beq_eq_false_iff_ne];omega
  cases p66
  ·have hRf:R=(p73||o):=by rw[HR3.out,if_neg h8,if_neg (fun h=>by cases h.2),decide_eq_false (by omega),Bool.false_and,Bool.false_or]
   cases p73
   ·have hRf2:R=o:=hRf;subst hRf2;clear h8 h0 hRf
    go_wp2_with fail
    refine(HO.out wr).mono ?_;rintro e w1 ⟨rfl,rfl⟩
    go_wp2_with fail
    go_ret;exact⟨rfl,rfl⟩
   have hRf2:R=true:=hRf;subst hRf2;clear h8 h0 hRf
   go_wp2_with fail
   go_ret;exact⟨rfl,rfl⟩
  have hRf:R=true:=by rw[HR3.out,if_neg h8,if_pos ⟨h0,rfl⟩]
  subst hRf;clear h8 h0
  go_wp2_with fail
  go_ret;exact⟨rfl,rfl⟩
 have d0:¬(0:Int)<k:=by omega
 have dz:((k:Int)==0)=true:=by rw[beq_iff_eq];omega
 have hRf:R=(p73||(p74||o)):=by rw[HR3.out,if_neg h8,if_neg (fun h=>h0 h.1),decide_eq_true (by omega),Bool.true_and]
 cases p73
 ·cases p74
  ·have hRf2:R=o:=hRf;subst hRf2;clear h8 h0 hRf
   go_wp2_with fail
   refine(HO.out wr).mono ?_;rintro e w1 ⟨rfl,rfl⟩
   go_wp2_with fail
   go_ret;exact⟨rfl,rfl⟩
  have hRf2:R=true:=hRf;subst hRf2;clear h8 h0 hRf
  go_wp2_with fail
  go_ret;exact⟨rfl,rfl⟩
 have hRf2:R=true:=hRf;subst hRf2;clear h8 h0 hRf
 go_wp2_with fail
 go_ret;exact⟨rfl,rfl⟩
theorem C7i(w:World)(s:List UInt8)(hl:s.length<=65536):Calls Tryz.prog 153 #[.string ⟨s.toArray⟩] w fun e w'=>e= .returned (.string ⟨(s.take (A8g s)).toArray⟩)/\w'=w:=by
 rw[<-D5y];obtain⟨T,hT⟩:=exz (B2c s.length 1 s);have HT:=hzz hT;rw[<-hT];obtain⟨N,hN⟩:=exz (s.length);have hsz:(⟨s.toArray⟩:ByteArray).size=N:=by rw[hN];exact A4n s
 have HN:=hzz hN;have hNl:N<=65536:=by omega
 clear hT hN;go_enter Tryz.func153,Tryz.ntmps153
 go_wp2_with fail
 go_loopg [3] (N+1) (fun gn dv wr=>∃k:Nat,k<=N/\gn=N+1-k/\dv= .int .i64 ((k:Int)+1)/\Hid (B2c (N-k) (k+1) s=T)/\wr=w)
 case atStart=>exact⟨0,by omega,by omega,by go_num,hzz (by rw[HT.out,HN.out];rfl),rfl⟩
 obtain⟨k,hk,rfl,rfl,HF,rfl⟩:=hrel;by_cases hlt:k<N
 ·have k1:(k:Int)+1<=N:=by omega
  have hto:=fun w'=>show(Instr.slice 9 (.string ⟨s.toArray⟩) none (some (.int .i64 ((k:Int)+1))) none).run Tryz.prog w'= .ok (.string ⟨(s.take (k+1)).toArray⟩) w' from C6y w' s (k+1) (by rw[<-HN.out];omega) (by omega)
  have HIT:=hzz (fun w=>A7p w (s.take (k+1)) (by rw[List.length_take];omega));rw[<-B8m]at HIT;have HF2:=HF.out;rw[show N-k=(N-(k+1))+1 by omega,B2c]at HF2
  cases hy:C4y (s.take (k+1))
  ·rw[hy]at HIT HF2;have HF3:=hzz (show B2c (N-(k+1)) (k+1+1) s=T from HF2);clear HF2 hy hlt
   go_wp2_with fail
   refine(HIT.out wr).mono ?_;rintro e w1 ⟨rfl,rfl⟩
   go_wp2_with fail
   go_roundg (N+1-(k+1))
   case measure=>omega
   exact⟨k+1,by omega,rfl,by go_num,HF3,rfl⟩
  rw[hy]at HIT HF2;have hT:k+1=T:=HF2;subst hT;clear HF2 hy hlt
  go_wp2_with fail
  refine(HIT.out wr).mono ?_;rintro e w1 ⟨rfl,rfl⟩
  go_wp2_with fail
  go_ret;exact⟨rfl,rfl⟩
 have k1:¬(k:Int)+1<=N:=by omega
 have hT:T=0:=by rw[<-HF.out,show N-k=0 by omega];rfl
 subst hT;clear hlt
 go_wp2_with fail
 go_ret;exact⟨rfl,rfl⟩
end
end Go.Proofs.YtclpkipaehpkdaaGreatDoor
