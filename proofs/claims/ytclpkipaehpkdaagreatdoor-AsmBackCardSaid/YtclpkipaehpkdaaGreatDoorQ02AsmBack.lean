/- asm -/
import Derived.Test.YtclpkipaehpkdaaGreatDoorQ01AsmBack
import Derived.Test.YtclpkipaehpkdaaGreatDoorQ00AsmBack
import Derived.Lib.Split
import Derived.Lib.CutLaws
import Derived.Lib.DecodeN
import Derived.OwnWalk
set_option linter.unusedVariables false
set_option linter.unusedSimpArgs false
set_option maxRecDepth 100000
set_option maxHeartbeats 64000000
open Go.Proofs.Tryz
namespace Go.Proofs.YtclpkipaehpkdaaGreatDoor
section
open Go.ChangeShapes Go.WideShapes Go.ChangeAt Go.RowKit
structure VW(w:World):Prop where
 m:∃m,w.cell? ⟨0,0,none⟩=some (.int .i64 m)
theorem jk{w w':World}{a:Addr}{v:Value}(h:w.cell? a=some v)(hb:Below w.heap.size w w'):w'.cell? a=some v:=by
 have ZX:a.block<w.heap.size:=by
  rcases Nat.lt_or_ge a.block w.heap.size with h1|h1
  ·exact h1
  exfalso;have:w.heap[a.block]? =none:=Array.getElem?_eq_none (by omega);simp[World.cell?,this]at h
 rw[<-h];unfold World.cell?;rw[hb.block _ ZX]
theorem VW.below{w w':World}(h:VW w)(hb:Below w.heap.size w w'):VW w':=by
 obtain⟨m,hm⟩:=h;exact⟨m,jk hm hb⟩
theorem sw(w:World):∀n,Below w.heap.size w (w.drewN n)
 |0=>Z6
 |n+1=>(sw w n).drew
theorem fJ(w:World):∀n,(w.drewN n).heap=w.heap
 |0=>rfl
 |n+1=>fJ w n
theorem iu(s:ByteArray):(⟨s.data.toList.toArray⟩:ByteArray)=s:=by cases s;simp
def sp(c:UInt8):List UInt8->List (List UInt8)
 |[]=>[[]]
 |b::l=>if b=c then []::sp c l else match sp c l with|[]=>[[b]]|x::xs=>(b::x)::xs
theorem pP(c:UInt8):Lib.index [] [c]= -1:=by unfold Lib.index;simp
theorem qP(b c:UInt8)(l:List UInt8):Lib.index (b::l) [c]=if b=c then 0 else if Lib.index l [c]= -1 then-1 else Lib.index l [c]+1:=by
 rw[Lib.index];by_cases h:b=c
 ·subst h;simp
 have:¬c=b:=fun e=>h e.symm
 simp[h,this]
theorem fu(c:UInt8):∀s,Lib.index s [c]= -1->sp c s=[s]
 |[],_=>rfl
 |b::l,h=>by
  rw[qP]at h;split at h
  ·cases h
  next hb=>
  have hg:=Lib.index_ge l [c];split at h
  ·next h1=>simp[sp,hb,fu c l h1]
  omega
theorem eC(c:UInt8):∀s (i:Nat),Lib.index s [c]=i->sp c s=s.take i::sp c (s.drop (i+1))
 |[],i,h=>by rw[pP]at h;omega
 |b::l,i,h=>by
  rw[qP]at h;split at h
  ·next hb=>
         have:i=0:=by omega
         subst this;simp[sp,hb]
  next hb=>
  have hg:=Lib.index_ge l [c];split at h
  ·omega
  obtain⟨k,rfl⟩:∃k,i=k+1:=⟨i-1,by omega⟩;simp[sp,hb,eC c l k (by omega)]
theorem D9x(c:UInt8):∀(n:Nat) (s:List UInt8),s.length<=n->Lib.splitK [c] 0 (Lib.count s [c]) s=sp c s/\(sp c s).length=Lib.count s [c]+1:=by
 intro n
 induction n with
 |zero=>
  intro s h;have:s=[]:=List.eq_nil_of_length_eq_zero (by omega);subst this;rw[Lib.count_miss (pP c)];exact⟨rfl,rfl⟩
 |succ n ih=>
  intro s h;by_cases h1:Lib.index s [c]= -1
  ·rw[Lib.count_miss h1,fu c s h1];exact⟨rfl,rfl⟩
  have hg:=Lib.index_ge s [c];obtain⟨i,hi⟩:∃i:Nat,Lib.index s [c]=i:=⟨(Lib.index s [c]).toNat,by omega⟩
  have ZF:0<s.length:=by
   rcases Nat.eq_zero_or_pos s.length with h0|h0
   ·have:s=[]:=List.eq_nil_of_length_eq_zero h0;subst this;exact absurd (pP c) h1
   exact h0
  obtain⟨e1,e2⟩:=ih (s.drop (i+1)) (by rw[List.length_drop];omega);rw[Lib.count_hit (by simp) hi,eC c s i hi];constructor
  ·rw[Nat.add_comm,Lib.splitK,if_neg (by simp[hi]),hi];simp only[Int.toNat_natCast,Nat.add_zero,List.length_singleton];rw[e1]
  simp only[List.length_cons,List.length_nil,Nat.zero_add];rw[e2];omega
theorem D3d(w:World)(s:List UInt8)(c:UInt8)(hs:s.length<=4294967000)(hv:VW w):
  Calls prog 84 #[.string ⟨s.toArray⟩,.string ⟨#[c]⟩] w fun e w'=>
   e= .returned (.slice (some ⟨w.heap.size,0,none⟩) (sp c s).length (sp c s).length)/\w'=w.alloc (.cells ((sp c s).map fun x=>Value.string ⟨x.toArray⟩).toArray 9):=by
 obtain⟨m,hm⟩:=hv.m;refine(Tryz.strings_Split ⟨s.toArray⟩ ⟨#[c]⟩ m w (by simp[ByteArray.size];omega) hm (Nat.le_refl 1)).mono ?_;rintro e w' ⟨rfl,rfl⟩;obtain⟨e1,e2⟩:=D9x c s.length s Z5;have e3:=Lib.splitB_data ⟨#[c]⟩ 0 (Lib.countB ⟨s.toArray⟩ ⟨#[c]⟩) ⟨s.toArray⟩
 have e4:(Lib.splitB ⟨#[c]⟩ 0 (Lib.countB ⟨s.toArray⟩ ⟨#[c]⟩) ⟨s.toArray⟩).map Value.string=(sp c s).map fun x=>Value.string ⟨x.toArray⟩:=by
  rw[<-e1];rw[show Lib.splitK [c] 0 (Lib.count s [c]) s=_ from e3.symm,List.map_map];refine List.map_congr_left fun x _=> ?_
  simp[iu]
 rw[e2];exact⟨rfl,by rw[e4]⟩
theorem fS(c:UInt8)(s:List UInt8)(h:Lib.index s [c]= -1):Lib.cut s [c]=(s,[],false):=by unfold Lib.cut;rw[if_neg (by omega)]
theorem k'(c:UInt8)(s:List UInt8)(i:Nat)(h:Lib.index s [c]=i):Lib.cut s [c]=(s.take i,s.drop (i+1),true):=by unfold Lib.cut;rw[if_pos (by omega),h];simp
theorem E4n(w:World)(s:List UInt8)(c:UInt8)(hs:s.length<=4294967000)(hv:VW w):
  Calls prog 96 #[.string ⟨s.toArray⟩,.string ⟨#[c]⟩] w fun e w'=>
   e= .returned (.tuple #[.string ⟨(Lib.cut s [c]).1.toArray⟩,.string ⟨(Lib.cut s [c]).2.1.toArray⟩,.bool (Lib.cut s [c]).2.2])/\Below w.heap.size w w'/\w'.heap=w.heap:=by
 obtain⟨m,hm⟩:=hv.m;refine(Tryz.strings_Cut ⟨s.toArray⟩ ⟨#[c]⟩ m w (by simp[ByteArray.size];omega) hm).mono ?_;rintro e w' ⟨rfl,n,rfl⟩;exact⟨rfl,sw w n,fJ w n⟩
theorem nQ(xs ys:List UInt8):((⟨xs.toArray⟩:ByteArray)++(⟨ys.toArray⟩:ByteArray))=⟨(xs++ys).toArray⟩:=by
 apply ByteArray.ext;simp
theorem vy{a b:Bool}(h:a=b):Ending.returned (.bool a)=Ending.returned (.bool b):=by rw[h]
def uW(n:Nat):Bool:=(decide (97<=n)&&decide (n<=122))||(decide (65<=n)&&decide (n<=90))||(decide (48<=n)&&decide (n<=57))||decide (n=95)||decide (n=36)
theorem cv(args:Array Value)(w:World):(callFunc 134 args).run prog w= .ok (.enter 134 args) w:=by kernel_rfl
theorem dr(args:Array Value)(w:World):(callFunc 85 args).run prog w= .ok (.enter 85 args) w:=by kernel_rfl
theorem D4f(w:World)(n:Nat)(h:n<256):Calls prog 134 #[.int .u8 (n:Int)] w fun e w'=>e= .returned (.bool (!uW n))/\w=w':=by
 go_enter func134,ntmps134
 go_wp2
 all_goals (go_ret;refine⟨vy ?_,rfl⟩;rw[Bool.eq_iff_iff];unfold uW;simp only[Bool.or_eq_true,Bool.and_eq_true,decide_eq_true_eq,beq_iff_eq,Bool.not_eq_true',Bool.not_eq_false',beq_eq_false_iff_ne,ne_eq,Bool.or_eq_false_iff,Bool.and_eq_false_imp,decide_eq_false_iff_not,Bool.false_eq_true,false_iff,true_iff,Bool.not_eq_true,reduceCtorEq]at*;omega)
def uG(s:List UInt8):Bool:= !s.isEmpty&&s.all fun c=>uW c.toNat
theorem D9k(w:World)(s:List UInt8)(hl:s.length<=65536):Calls prog 86 #[.string ⟨s.toArray⟩] w fun e w'=>e= .returned (.bool (uG s))/\Below w.heap.size w w':=by
 obtain⟨r,hr⟩:=Z8 (uG s);rw[<-hr];have hall:(s.all fun c=>uW c.toNat)= !(s.any fun c=> !uW c.toNat):=by rw[List.all_eq_not_any_not]
 unfold uG at hr;rw[hall]at hr;have HR:=Z' hr;clear hr hall;have Zp:=Z' (Below.refl w.heap.size w)
 cases he:s.isEmpty
 ·obtain⟨c,w1,hcv,Yd,Y5,ZQ,Wi⟩:=mW w s;have ZM:=Z' ZQ;have Mp:=Z' (dN w1 _ s.length c s 134 (fun c=> !uW c.toNat) Yd hl cv (fun w c=>D4f w c.toNat c.toNat_lt));rw[he]at HR;generalize(s.any fun c=> !uW c.toNat)=ok at*;clear Yd ZQ hl Y5 Wi;go_enter func86,ntmps86
  go_wp2_with fail
  refine Mp.out.mono ?_;rintro e w' ⟨rfl,rfl⟩
  go_wp2_with fail
  go_ret
  exact⟨vy (by rw[HR.out];cases ok<;>rfl),ZM.out⟩
 rw[he]at HR;go_enter func86,ntmps86
 go_wp2_with fail
 go_ret;exact⟨vy (by rw[HR.out];rfl),Zp.out⟩
theorem ae(w:World)(s:List UInt8)(hl:s.length<=65536):Calls prog 85 #[.string ⟨s.toArray⟩] w fun e w'=>e= .returned (.bool (!uG s))/\Below w.heap.size w w':=by
 have HW:=Z' (D9k w s hl);generalize uG s=ok at*;go_enter func85,ntmps85
 go_wp2_with fail
 refine HW.out.mono ?_;rintro e w' ⟨rfl,hb⟩;have HB:=Z' hb;clear hb
 go_wp2_with fail
 go_ret;exact⟨rfl,HB.out⟩
theorem dF(w:World)(g cap f:Nat)(xs:List (List UInt8))(p:List UInt8->Bool)(hc:∀(j:Nat) x,xs[j]? =some x->w.cell? ⟨g,j,none⟩=some (.string ⟨x.toArray⟩))(hn:xs.length<=65536)
  (he:∀(args:Array Value) (w:World),(callFunc f args).run prog w= .ok (.enter f args) w) (hf:∀(w:World) x,x∈xs->Calls prog f #[.string ⟨x.toArray⟩] w fun e w'=>e= .returned (.bool (p x))/\Below w.heap.size w w'):
  Calls prog 132 #[.slice (some ⟨g,0,none⟩) xs.length cap,.func (.func f) #[] #[]] w fun e w'=>∃r:Int,e= .returned (.int .i64 r)/\decide (0<=r)=xs.any p/\Below w.heap.size w w':=by
 obtain⟨n,hN⟩:=Z8 (xs.length);rw[<-hN]at hn⊢;have HN:=Z' hN;have HC:=Z' hc;have HF:=Z' hf;clear hc hf hN;go_enter func132,ntmps132
 go_wp2_with fail
 go_loopg [8] n (fun gn i wr=>∃j:Nat,j<=n/\gn=n-j/\i= .int .i64 j/\Hid (∀k (h:k<xs.length),k<j->p xs[k]=false)/\Hid (Below w.heap.size w wr))
 case atStart=>exact⟨0,by omega,by omega,by go_num,Z' (fun k h h0=>by omega),Z' Z6⟩
 obtain⟨j,hj,rfl,rfl,HG,HB⟩:=hrel;by_cases ZX:j<n
 ·have hjs:j<xs.length:=by rw[<-HN.out];exact ZX
  have q0:wr.cell? ⟨g,j,none⟩=some (.string ⟨(xs[j]).toArray⟩):=jk (HC.out j _ (List.getElem?_eq_getElem hjs)) HB.out;have HY:=Z9 (p xs[j]=true->xs.any p=true) (fun h=>List.any_eq_true.2 ⟨xs[j],List.getElem_mem hjs,h⟩)
  have HX:=Z9 (p xs[j]=false->∀k (h:k<xs.length),k<j+1->p xs[k]=false) (fun h k hk X7=>by
   rcases Nat.lt_or_ge k j with h1|h1
   ·exact HG.out k hk h1
   obtain rfl:k=j:=by omega
   exact h)
  have E6:=Z' (HF.out wr _ (List.getElem_mem hjs));have j1:(j:Int)<n:=by omega
  generalize xs[j]=x at*;generalize p x=ok at*;clear hjs
  go_wp2_with fail
  refine E6.out.mono ?_;rintro e w' ⟨rfl,hb⟩;have ZT:=Z7 HB hb;clear hb
  cases ok
  ·have HM:=Z' (HX.out rfl)
   go_wp2_with fail
   go_roundg (n-(j+1))
   case measure=>omega
   exact⟨j+1,by omega,rfl,by go_num,HM,ZT⟩
  have HR:=Z' (HY.out rfl)
  go_wp2_with fail
  go_ret;exact⟨_,rfl,by rw[HR.out];simp,ZT.out⟩
 obtain rfl:j=n:=by omega
 have HR:=Z9 (xs.any p=false) (by
  rw[List.any_eq_false];intro c hc;obtain⟨k,hk,rfl⟩:=List.getElem_of_mem hc;rw[HG.out k hk (by rw[<-HN.out]at hk;exact hk)];decide)
 go_wp2_with fail
 go_ret;exact⟨_,rfl,by rw[HR.out];rfl,HB.out⟩
theorem dQ(w:World)(g cap f:Nat)(xs:List (List UInt8))(p:List UInt8->Bool)(hc:∀(j:Nat) x,xs[j]? =some x->w.cell? ⟨g,j,none⟩=some (.string ⟨x.toArray⟩))(hn:xs.length<=65536)
  (he:∀(args:Array Value) (w:World),(callFunc f args).run prog w= .ok (.enter f args) w) (hf:∀(w:World) x,x∈xs->Calls prog f #[.string ⟨x.toArray⟩] w fun e w'=>e= .returned (.bool (p x))/\Below w.heap.size w w'):
  Calls prog 83 #[.slice (some ⟨g,0,none⟩) xs.length cap,.func (.func f) #[] #[]] w fun e w'=>e= .returned (.bool (xs.any p))/\Below w.heap.size w w':=by
 have HI:=Z' (dF w g cap f xs p hc hn he hf);generalize xs.any p=ok at*;generalize xs.length=n at*;clear hc hf he;go_enter func83,ntmps83
 go_wp2_with fail
 refine HI.out.mono ?_;rintro e w' ⟨r,rfl,hr,hb⟩;have HB:=Z' hb;clear hb
 go_wp2_with fail
 go_ret;exact⟨rfl,HB.out⟩
def classB(s:List UInt8):Bool:=decide (s.length<=64)&&(sp 47 s).all uG
theorem iZ(c:UInt8):∀(s:List UInt8) x,x∈sp c s->x.length<=s.length
 |[],x,h=>by simp[sp]at h;subst h;simp
 |b::l,x,h=>by
  have ih:=iZ c l;unfold sp at h;split at h
  ·rcases List.mem_cons.1 h with rfl|h
   ·simp
   have:=ih x h;simp;omega
  split at h
  ·simp at h;subst h;simp
  next y ys e=>
  rw[e]at ih
  rcases List.mem_cons.1 h with rfl|h
  ·have:=ih y (by simp);simp;omega
  have:=ih x (by simp[h]);simp;omega
theorem D6p(c:UInt8)(s:List UInt8):(sp c s).length<=s.length+1:=by
 induction s with
 |nil=>simp[sp]
 |cons b l ih=>
  unfold sp;split
  ·simp;omega
  split
  ·simp
  next e=>rw[e]at ih;simp at ih⊢;omega
theorem qH(w:World)(s:List UInt8)(hl:s.length<=4294967000)(hv:VW w):Calls prog 42 #[.string ⟨s.toArray⟩] w fun e w'=>e= .returned (.bool (classB s))/\Below w.heap.size w w':=by
 obtain⟨r,hr⟩:=Z8 (classB s);rw[<-hr];unfold classB at hr;have hall:(sp 47 s).all uG= !((sp 47 s).any fun x=> !uG x):=by rw[List.all_eq_not_any_not]
 rw[hall]at hr;have HR:=Z' hr;clear hr hall;have hsz:(⟨s.toArray⟩:ByteArray).size=s.length:=by simp[ByteArray.size]
 by_cases h64:s.length<=64
 ·have Xf:decide ((s.length:Int)<=64)=true:=by simp;omega
  have HS:=Z' (D3d w s 47 hl hv);have h1:=D6p 47 s;have ZQ:Below w.heap.size w (w.alloc (.cells ((sp 47 s).map fun x=>Value.string ⟨x.toArray⟩).toArray 9)):=Z6.alloc Z5 _;have ZM:=Z' ZQ
  have HC:=Z' (fun W1 (h:W1=w.alloc (.cells ((sp 47 s).map fun x=>Value.string ⟨x.toArray⟩).toArray 9))=>dQ W1 w.heap.size (sp 47 s).length 85 (sp 47 s) (fun x=> !uG x) (fun j x hx=>by
   subst h;rw[cell_of_row _ w.heap.size j _ _ _ (heap_alloc_last w _)];simp[hx]) (by omega) dr (fun w x hx=>ae w x (by have:=iZ 47 s x hx;omega)))
  rw[decide_eq_true h64]at HR;generalize((sp 47 s).any fun x=> !uG x)=ok at*;generalize(sp 47 s)=xs at*;clear hl hv h64 ZQ h1;go_enter func42,ntmps42
  go_wp2_with fail
  refine HS.out.mono ?_;rintro e w1 ⟨rfl,PP⟩;have YF:=Z' (HC.out w1 PP);rw[<-PP]at ZM;clear PP HC
  go_wp2_with fail
  refine YF.out.mono ?_;rintro e w2 ⟨rfl,ZN⟩;have ZT:=Z7 ZM ZN;clear ZN
  go_wp2_with fail
  go_ret
  exact⟨vy (by rw[HR.out];cases ok<;>rfl),ZT.out⟩
 have Xf:decide ((s.length:Int)<=64)=false:=by simp;omega
 have Zp:=Z' (Below.refl w.heap.size w);rw[decide_eq_false h64]at HR;clear hl hv h64;go_enter func42,ntmps42
 go_wp2_with fail
 go_ret;exact⟨vy (by rw[HR.out];rfl),Zp.out⟩
def cls:Nat->List UInt8->Bool
 |l,[]=>decide (l≠47)
 |l,c::s=>(uW c.toNat||(decide (c.toNat=47)&&decide (l≠47)))&&cls c.toNat s
theorem dW(c:UInt8):c=47↔c.toNat=47:=⟨fun h=>by rw[h];rfl,fun h=>UInt8.toNat_inj.1 h⟩
theorem dZ(c:UInt8)(s:List UInt8):∃x xs,sp c s=x::xs:=by
 cases s with
 |nil=>exact⟨_,_,rfl⟩
 |cons b l=>
 unfold sp;split
 ·exact⟨_,_,rfl⟩
 split
 ·exact⟨_,_,rfl⟩
 exact⟨_,_,rfl⟩
theorem eS:∀(s:List UInt8) (l:Nat) x xs,sp 47 s=x::xs->cls l s=((if l=47 then uG x else x.all fun c=>uW c.toNat)&&xs.all uG)
 |[],l,x,xs,h=>by
  simp only[sp,List.cons.injEq]at h;obtain⟨rfl,rfl⟩:=h;unfold cls;by_cases hl:l=47<;>simp[hl,uG]
 |c::s,l,x,xs,h=>by
  obtain⟨y,ys,e⟩:=dZ 47 s;have ih:=eS s c.toNat y ys e;unfold sp at h;unfold cls;rw[ih];by_cases hc:c=47
  ·rw[if_pos hc]at h;obtain⟨rfl,rfl⟩:=List.cons.inj h;rw[e];have Yz:c.toNat=47:=(dW c).1 hc;have hw:uW c.toNat=false:=by rw[Yz];decide
   by_cases hl:l=47<;>simp[hl,Yz,uG,show uW 47=false from by decide]
  rw[if_neg hc,e]at h;obtain⟨rfl,rfl⟩:=List.cons.inj h;have Yz:¬c.toNat=47:=fun h=>hc ((dW c).2 h)
  rw[if_neg Yz];by_cases hl:l=47<;>simp[hl,Yz,uG,Bool.and_assoc]
theorem iC(s:List UInt8):classB s=(decide (s.length<=64)&&cls 47 s):=by
 obtain⟨y,ys,e⟩:=dZ 47 s;rw[eS s 47 y ys e];unfold classB;rw[e];simp
theorem tu(w:World)(s:List UInt8)(hn:s.length<=281474976710656):Calls prog 27 #[.string ⟨s.toArray⟩] w fun e w'=>e= .returned (.bool (classB s))/\w'=w:=by
 obtain⟨n,hN⟩:=Z8 (s.length);have Zd:=Z' hN;obtain⟨r,hr⟩:=Z8 (classB s);rw[<-hr];rw[iC,<-hN]at hr;rw[<-hN]at hn;have HR:=Z' hr;have hsz:(⟨s.toArray⟩:ByteArray).size=n:=by rw[hN];simp[ByteArray.size]
 clear hr hN;go_enter func27,ntmps27
 go_wp2_with fail
 go_loopg [3,4] n (fun gn la i wr=>∃j l:Nat,j<=n/\gn=n-j/\la= .int .u8 l/\l<256/\i= .int .i64 j/\Hid (cls 47 s=cls l (s.drop j))/\wr=w)
 case atStart=>exact⟨0,47,by omega,by omega,rfl,by omega,by go_num,Z' rfl,rfl⟩
 obtain⟨j,l,hj,rfl,rfl,hl,rfl,HG,rfl⟩:=hrel;by_cases ZX:j<n
 ·have j1:(j:Int)<n:=by omega
  go_upto_region 6 with fail
  have hjs:j<s.length:=by rw[<-Zd.out];exact ZX
  generalize VC:(({data:=s.toArray}:ByteArray)[j]'(by rw[hsz];exact ZX)).toNat=c;have Y5:(s[j]'hjs).toNat=c:=VC
  have XM:cls 47 s=((uW c||(decide (c=47)&&decide (l≠47)))&&cls c (s.drop (j+1))):=by
   rw[HG.out,List.drop_eq_getElem_cons hjs,cls,Y5]
  have HF:=Z9 ((uW c||(decide (c=47)&&decide (l≠47)))=false->r=false) (fun h=>by rw[HR.out,XM,h,Bool.false_and,Bool.and_false]);have HM:=Z9 ((uW c||(decide (c=47)&&decide (l≠47)))=true->cls 47 s=cls c (s.drop (j+1))) (fun h=>by rw[XM,h,Bool.true_and]);have Yz:c<256:=by rw[<-Y5];exact(s[j]'hjs).toNat_lt
  clear VC Y5 hjs XM
  go_wp2_with fail
  all_goals first
   |(go_ret
     exact⟨vy (HF.out (by unfold uW;rw[Bool.eq_false_iff];simp only[Bool.or_eq_true,Bool.and_eq_true,decide_eq_true_eq,beq_iff_eq,Bool.not_eq_true',Bool.not_eq_false',decide_eq_false_iff_not,beq_eq_false_iff_ne,bne_iff_ne,bne_eq_false_iff_eq,ne_eq]at*;omega)).symm,rfl⟩)
   |(go_roundg (n-(j+1))
     case measure=>omega
     case rel=>exact⟨j+1,c,by omega,rfl,by go_num,Yz,by go_num,Z' (HM.out (by unfold uW;simp only[Bool.or_eq_true,Bool.and_eq_true,decide_eq_true_eq,beq_iff_eq,Bool.not_eq_true',Bool.not_eq_false',decide_eq_false_iff_not,beq_eq_false_iff_ne,bne_iff_ne,bne_eq_false_iff_eq,ne_eq]at*;omega)),rfl⟩)
 obtain rfl:j=n:=by omega
 have HQ:=Z9 (r=(decide (j<=64)&&decide (l≠47))) (by
  rw[HR.out,HG.out,List.drop_eq_nil_of_le (by rw[<-Zd.out];exact Nat.le_refl _),cls])
 by_cases h1:j<=64
 ·have e1:decide ((j:Int)<=64)=true:=by simp;omega
  have WF:=Z' (show r=decide (l≠47) by rw[HQ.out,decide_eq_true h1,Bool.true_and]);clear h1
  go_wp2_with fail
  go_ret;refine⟨vy ?_,rfl⟩;rw[WF.out,Bool.eq_iff_iff];simp only[bne_iff_ne,decide_eq_true_eq,ne_eq];omega
 have e1:decide ((j:Int)<=64)=false:=by simp;omega
 have WF:=Z' (show r=false by rw[HQ.out,decide_eq_false h1,Bool.false_and]);clear h1
 go_wp2_with fail
 go_ret;exact⟨vy WF.out.symm,rfl⟩
end
section
open Go.RowKit
def yr:List UInt8->Nat
 |[]=>0
 |c::s=>if c=91 then yr s+1 else 0
def uE(d:Nat):List UInt8->Nat
 |[]=>0
 |c::t=>if 8<d then 0 else if c=73\/(c=74/\d=0)\/(c=66/\0<d)then d+1
  else if c=76 then(if(Lib.cut t [59]).2.2=true/\classB (Lib.cut t [59]).1=true then d+(Lib.cut t [59]).1.length+2 else 0)else 0
theorem ui(d:Nat)(c:UInt8)(t:List UInt8):uE d (c::t)=if 8<d then 0 else if c=73\/(c=74/\d=0)\/(c=66/\0<d)then d+1
  else if c=76 then(if(Lib.cut t [59]).2.2=true/\classB (Lib.cut t [59]).1=true then d+(Lib.cut t [59]).1.length+2 else 0)else 0:=rfl
def xH(s:List UInt8):Nat:=uE (yr s) (s.drop (yr s))
def typeB(s:List UInt8):Bool:= !s.isEmpty&&decide (xH s=s.length)
def x6(s:List UInt8):Bool:=decide (s.head? =some 91)&&typeB s
def yk(s:List UInt8):Bool:= !s.contains 47&&classB s
def uV:Nat->List UInt8->Option (List UInt8)
 |n,s=>if s=[]\/s.head? =some 41 then some s else
  match n with
  |0=>none
  |n+1=>if xH s=0 then none else uV n (s.drop (xH s))
def rF(o:Option (List UInt8)):Bool:=match o with
 |none=>false
 |some []=>false
 |some (d::t)=>decide (d=41)&&(decide (t=[86])||typeB t)
def xY(s:List UInt8):Bool:=
 match s with
 |[]=>false
 |c::r=>decide (c=40)&&rF (uV 16 r)
def objR(s:List UInt8):Bool:=decide (3<=s.length)&&(decide (s.head? =some 76)&&(decide (s.getLast? =some 59)&&classB ((s.drop 1).take (s.length-2))))
def rH(s:List UInt8):Bool:=
 if 8<yr s then false
 else if 0<yr s/\s.drop (yr s)=[66]then true
 else decide (s.drop (yr s)=[73])||((decide (yr s=0)&&decide (s.drop (yr s)=[74]))||objR (s.drop (yr s)))
def sS:Nat->Nat->List UInt8->Nat
 |0,_,_=>0
 |f+1,n,s=>if rH (s.take n)=true then n else sS f (n+1) s
theorem qj:∀s:List UInt8,yr s<=s.length
 |[]=>Nat.le_refl _
 |c::s=>by
  unfold yr;split
  ·have:=qj s;simp;omega
  simp
theorem fp:∀(s:List UInt8) (i:Nat),i<yr s->s[i]? =some 91
 |[],i,h=>by simp[yr]at h
 |c::s,i,h=>by
  unfold yr at h;split at h
  ·next hc=>
   cases i with
   |zero=>simp[hc]
   |succ i=>simpa using fp s i (by omega)
  omega
theorem mN:∀(s:List UInt8),s[yr s]?≠some 91
 |[]=>by simp
 |c::s=>by
  unfold yr;split
  ·simpa using mN s
  next h=>simpa using h
theorem D3z(s:List UInt8):s.dropWhile (·==91)=s.drop (yr s):=by
 induction s with
 |nil=>rfl
 |cons c s ih=>
  unfold yr;by_cases h:c=91
  ·subst h;simpa using ih
  rw[if_neg h,List.dropWhile_cons_of_neg (by simpa using h)];rfl
theorem mh{nm:List UInt8}(h:classB nm=true):(59:UInt8)∉nm/\(91:UInt8)∉nm/\nm≠[]:=by
 rw[iC]at h;simp only[Bool.and_eq_true,decide_eq_true_eq]at h;obtain⟨_,h⟩:=h
 have key:∀(s:List UInt8) (l:Nat),cls l s=true->∀c∈s,uW c.toNat=true\/c.toNat=47:=by
  intro s
  induction s with
  |nil=>intro l _ c hc;cases hc
  |cons b s ih=>
   intro l hl c hc;simp only[cls,Bool.and_eq_true,Bool.or_eq_true,decide_eq_true_eq]at hl
   rcases List.mem_cons.1 hc with rfl|hc
   ·rcases hl.1 with h1|h1
    ·exact .inl h1
    exact .inr h1.1
   exact ih _ hl.2 c hc
 refine⟨fun hm=> ?_,fun hm=> ?_,fun e=> ?_⟩
 ·have:=key nm 47 h _ hm;revert this;decide
 ·have:=key nm 47 h _ hm;revert this;decide
 subst e;simp[cls]at h
theorem mS{nm t:List UInt8}(h:(59:UInt8)∉nm):Lib.cut (nm++59::t) [59]=(nm,t,true):=by
 have hi:Lib.index (nm++59::t) [59]=(nm.length:Nat):=by
  induction nm with
  |nil=>rw[List.nil_append,qP];simp
  |cons c nm ih=>
   rw[List.cons_append,qP,if_neg (by rintro rfl;exact h (by simp)),ih (fun hm=>h (by simp[hm]))];rw[if_neg (by omega)];simp
 rw[k' 59 _ _ hi];simp
theorem q'{s:List UInt8}(h:(Lib.cut s [59]).2.2=true):s=(Lib.cut s [59]).1++59::(Lib.cut s [59]).2.1/\(59:UInt8)∉(Lib.cut s [59]).1:=by
 by_cases h1:Lib.index s [59]= -1
 ·rw[fS 59 s h1]at h;cases h
 have hg:=Lib.index_ge s [59];obtain⟨i,hi⟩:∃i:Nat,Lib.index s [59]=i:=⟨(Lib.index s [59]).toNat,by omega⟩;rw[k' 59 s i hi];clear h h1 hg
 induction s generalizing i with
 |nil=>rw[pP]at hi;omega
 |cons c s ih=>
  rw[qP]at hi;split at hi
  ·next hc=>
         have:i=0:=by omega
         subst this;subst hc;simp
  next hc=>
  have hg:=Lib.index_ge s [59];split at hi
  ·omega
  obtain⟨k,rfl⟩:∃k,i=k+1:=⟨i-1,by omega⟩;obtain⟨e1,e2⟩:=ih k (by omega);simp only[List.take_succ_cons,List.drop_succ_cons];refine⟨by simpa using e1,fun hm=> ?_⟩
  rcases List.mem_cons.1 hm with h2|h2
  ·exact hc h2.symm
  exact e2 h2
theorem E1u(d:Nat)(b:List UInt8):uE d b<=d+b.length:=by
 cases b with
 |nil=>simp[uE]
 |cons c t=>
 rw[ui];by_cases h8:8<d
 ·rw[if_pos h8];omega
 rw[if_neg h8];by_cases h1:c=73\/(c=74/\d=0)\/(c=66/\0<d)
 ·rw[if_pos h1];simp
 rw[if_neg h1];by_cases h76:c=76
 ·rw[if_pos h76];by_cases h:(Lib.cut t [59]).2.2=true/\classB (Lib.cut t [59]).1=true
  ·rw[if_pos h];have:=congrArg List.length (q' h.1).1;simp only[List.length_append,List.length_cons]at this⊢;omega
  rw[if_neg h];omega
 rw[if_neg h76];omega
theorem qi(s:List UInt8):xH s<=s.length:=by
 unfold xH;have h1:=E1u (yr s) (s.drop (yr s));have h2:=qj s;rw[List.length_drop]at h1;omega
theorem D9u{u v:List UInt8}(h:yr u<u.length):yr (u++v)=yr u:=by
 induction u with
 |nil=>simp at h
 |cons c u ih=>
  rw[List.cons_append];unfold yr at h⊢;by_cases hc:c=91
  ·rw[if_pos hc]at h⊢;rw[if_pos hc,ih (by simpa using h)]
  rw[if_neg hc,if_neg hc]
theorem E3h{u:List UInt8}(hu:typeB u=true)(v:List UInt8):xH (u++v)=u.length:=by
 unfold typeB at hu;simp only[Bool.and_eq_true,Bool.not_eq_true',List.isEmpty_eq_false_iff,decide_eq_true_eq]at hu;obtain⟨ZF,hu⟩:=hu
 have hd:yr u<u.length:=by
  rcases Nat.lt_or_ge (yr u) u.length with h|h
  ·exact h
  have h2:u.drop (yr u)=[]:=List.drop_eq_nil_of_le h;unfold xH at hu;rw[h2]at hu;simp only[uE]at hu;have:u.length≠0:=fun e=>ZF (List.eq_nil_of_length_eq_zero e)
  omega
 have zY:(u++v).drop (yr u)=u.drop (yr u)++v:=List.drop_append_of_le_length (by omega);have e2:(u.drop (yr u)).length=u.length-yr u:=List.length_drop;unfold xH at hu⊢;rw[D9u hd,zY];generalize yr u=d at*;generalize u.drop d=b at*
 cases b with
 |nil=>simp at e2;omega
 |cons c t=>
 rw[List.cons_append];rw[ui]at hu⊢;split at hu
 ·simp at e2;omega
 next h8=>
 rw[if_neg h8];split at hu
 ·next h1=>rw[if_pos h1];exact hu
 next h1=>
 rw[if_neg h1];split at hu
 ·next h76=>
  rw[if_pos h76];split at hu
  ·next hc=>
   obtain⟨e3,e4⟩:=q' hc.1
   have e5:t=(Lib.cut t [59]).1++59::[]:=by
    have h7:=congrArg List.length e3;simp only[List.length_append,List.length_cons]at h7 e2;have h8:(Lib.cut t [59]).2.1=[]:=List.eq_nil_of_length_eq_zero (by omega);rw[h8]at e3;exact e3
   have e6:Lib.cut (t++v) [59]=((Lib.cut t [59]).1,v,true):=by
    have h9:t++v=(Lib.cut t [59]).1++59::v:=by
     rw[show(Lib.cut t [59]).1++59::v=((Lib.cut t [59]).1++59::[])++v by simp,<-e5]
    rw[h9];exact mS e4
   rw[e6];simp only[true_and];rw[if_pos hc.2];exact hu
  simp at e2;omega
 simp at e2;omega
theorem D8s{s:List UInt8}(h:xH s≠0):typeB (s.take (xH s))=true:=by
 have hl:=qi s;have ZR:(s.take (xH s)).length=xH s:=by rw[List.length_take];omega
 have MD:yr s<xH s:=by
  unfold xH at h⊢;generalize s.drop (yr s)=b at*;generalize yr s=d at*
  cases b with
  |nil=>simp[uE]at h
  |cons c t=>
  rw[ui]at h⊢;split at h
  ·exact absurd rfl h
  next h8=>
  rw[if_neg h8];split at h
  ·next h1=>rw[if_pos h1];omega
  next h1=>
  rw[if_neg h1];split at h
  ·next h76=>
   rw[if_pos h76];split at h
   ·next hc=>rw[if_pos hc];omega
   exact absurd rfl h
  exact absurd rfl h
 have NV:yr (s.take (xH s))=yr s:=by
  have key:∀(s:List UInt8) (n:Nat),yr s<n->yr (s.take n)=yr s:=by
   intro s
   induction s with
   |nil=>intro n _;simp
   |cons c s ih=>
    intro n hn
    cases n with
    |zero=>omega
    |succ n=>
    rw[List.take_succ_cons];unfold yr at hn⊢;by_cases hc:c=91
    ·rw[if_pos hc]at hn⊢;rw[if_pos hc,ih n (by omega)]
    rw[if_neg hc,if_neg hc]
  exact key s _ MD
 unfold typeB;simp only[Bool.and_eq_true,Bool.not_eq_true',List.isEmpty_eq_false_iff,decide_eq_true_eq];refine⟨fun e=>by rw[e]at ZR;simp at ZR;omega,?_⟩;rw[ZR];have Cn:(s.take (xH s)).drop (yr s)=(s.drop (yr s)).take (xH s-yr s):=by rw[List.drop_take]
 unfold xH;rw[show yr (s.take (uE (yr s) (s.drop (yr s))))=yr s from NV];rw[show(s.take (uE (yr s) (s.drop (yr s)))).drop (yr s)=(s.drop (yr s)).take (xH s-yr s)from Cn];have XM:xH s=uE (yr s) (s.drop (yr s)):=rfl;rw[<-XM];unfold xH at h;rw[XM]at MD⊢;generalize s.drop (yr s)=b at*;generalize yr s=d at*;clear hl ZR NV Cn XM
 cases b with
 |nil=>simp[uE]at h
 |cons c t=>
 have h8:¬8<d:=fun h8=>h (by rw[ui,if_pos h8])
 by_cases h1:c=73\/(c=74/\d=0)\/(c=66/\0<d)
 ·have e:uE d (c::t)=d+1:=by rw[ui,if_neg h8,if_pos h1]
  rw[e,show d+1-d=1 by omega,List.take_succ_cons,List.take_zero];rw[ui,if_neg h8,if_pos h1]
 by_cases h76:c=76
 ·by_cases hc:(Lib.cut t [59]).2.2=true/\classB (Lib.cut t [59]).1=true
  ·have e:uE d (c::t)=d+(Lib.cut t [59]).1.length+2:=by rw[ui,if_neg h8,if_neg h1,if_pos h76,if_pos hc]
   obtain⟨e3,e4⟩:=q' hc.1
   have et:t.take ((Lib.cut t [59]).1.length+1)=(Lib.cut t [59]).1++59::[]:=by
    rw[e3];rw[show(Lib.cut ((Lib.cut t [59]).1++59::(Lib.cut t [59]).2.1) [59]).1=(Lib.cut t [59]).1 by rw[<-e3]];rw[List.take_append,List.take_of_length_le (by omega)];simp
   rw[e,show d+(Lib.cut t [59]).1.length+2-d=((Lib.cut t [59]).1.length+1)+1 by omega,List.take_succ_cons,et];rw[ui,if_neg h8,if_neg h1,if_pos h76,mS e4];simp only[true_and];rw[if_pos hc.2]
  exact absurd (by rw[ui,if_neg h8,if_neg h1,if_pos h76,if_neg hc]) h
 exact absurd (by rw[ui,if_neg h8,if_neg h1,if_neg h76]) h
theorem mK(c:UInt8)(t:List UInt8):objR (c::t)=(decide (3<=t.length+1)&&(decide (c=76)&&(decide ((c::t).getLast? =some 59)&&classB (t.take (t.length+1-2))))):=by
 unfold objR;simp
theorem E3n(t:List UInt8):objR (76::t)=true↔(Lib.cut t [59]).2.2=true/\classB (Lib.cut t [59]).1=true/\t.length=(Lib.cut t [59]).1.length+1:=by
 rw[mK];simp only[Bool.and_eq_true,decide_eq_true_eq,true_and];constructor
 ·rintro⟨h3,hl,hc⟩;have ZF:t≠[]:=fun e=>by subst e;simp at h3
  have Xf:t.getLast? =some 59:=by
   rw[List.getLast?_cons]at hl
   cases h:t.getLast? with
   |none=>rw[List.getLast?_eq_none_iff]at h;exact absurd h ZF
   |some x=>rw[h]at hl;simpa using hl
  obtain⟨m,hm⟩:=List.getLast?_eq_some_iff.1 Xf
  have AF:t.take (t.length+1-2)=m:=by
   rw[hm];simp
  rw[AF]at hc
  have e:Lib.cut t [59]=(m,[],true):=by
   rw[hm];exact mS (mh hc).1
  rw[e];exact⟨rfl,hc,by rw[hm];simp⟩
 rintro⟨h1,h2,h3⟩;obtain⟨e3,e4⟩:=q' h1;have ZF:=(mh h2).2.2;generalize(Lib.cut t [59]).1=nm at*
 have e5:t=nm++[59]:=by
  have h7:=congrArg List.length e3;simp only[List.length_append,List.length_cons]at h7;have h8:(Lib.cut t [59]).2.1=[]:=List.eq_nil_of_length_eq_zero (by omega);rw[h8]at e3;exact e3
 subst e5;have:0<nm.length:=List.length_pos_iff.2 ZF;refine⟨by simp;omega,by rw[<-List.cons_append,List.getLast?_append];rfl,?_⟩;simpa using h2
theorem mf(s:List UInt8):rH s=typeB s:=by
 have hd:=qj s;have P6:=mN s;have ZR:s.length=yr s+(s.drop (yr s)).length:=by rw[List.length_drop];omega
 have KW:s.isEmpty=decide (s.length=0):=by cases s<;>simp
 unfold rH typeB xH;rw[KW,ZR];generalize s.drop (yr s)=b at*;generalize yr s=d at*;clear hd P6 ZR KW;by_cases h8:8<d
 ·rw[if_pos h8]
  have:uE d b=0:=by
   cases b with
   |nil=>rfl
   |cons c t=>rw[ui,if_pos h8]
  rw[this];have h1:decide (0=d+b.length)=false:=decide_eq_false (by omega);rw[h1];simp
 rw[if_neg h8]
 cases b with
 |nil=>
  have VC:uE d []=0:=rfl;rw[VC];by_cases h0:d=0
  ·subst h0;simp[objR]
  have h1:decide (0=d+([]:List UInt8).length)=false:=decide_eq_false (by simp;omega);rw[h1];simp[objR]
 |cons c t=>
 have hz:decide (d+(c::t).length=0)=false:=decide_eq_false (by simp);have M4:decide (0=d+(t.length+1))=false:=decide_eq_false (by omega)
 have ZX:(decide (d+1=d+(t.length+1)))=decide (t=[]):=by
  apply decide_eq_decide.2;rw[<-List.length_eq_zero_iff];omega
 rw[hz,ui,if_neg h8,mK];simp only[Bool.not_false,Bool.true_and,List.length_cons,List.cons.injEq];by_cases XK:c=73
 ·subst XK;have a1:¬(0<d/\(73:UInt8)=66/\t=[]):=fun h=>absurd h.2.1 (by decide)
  rw[if_pos (Or.inl rfl),ZX,if_neg a1];simp
 by_cases Ye:c=74
 ·subst Ye;have a1:¬(0<d/\(74:UInt8)=66/\t=[]):=fun h=>absurd h.2.1 (by decide)
  rw[if_neg a1];by_cases h0:d=0
  ·subst h0;rw[if_pos (Or.inr (Or.inl ⟨rfl,rfl⟩)),ZX];simp
  have a2:¬((74:UInt8)=73\/((74:UInt8)=74/\d=0)\/((74:UInt8)=66/\0<d)):=by
   rintro(h|⟨_,h⟩|⟨h,_⟩)
   ·exact absurd h (by decide)
   ·exact h0 h
   exact absurd h (by decide)
  have a3:¬((74:UInt8)=76):=by decide
  rw[if_neg a2,if_neg a3,M4];simp[h0]
 by_cases TE:c=66
 ·subst TE;have a3:¬((66:UInt8)=76):=by decide
  by_cases h0:0<d
  ·rw[if_pos (Or.inr (Or.inr ⟨rfl,h0⟩)),ZX];by_cases ht:t=[]
   ·rw[if_pos ⟨h0,rfl,ht⟩];simp[ht]
   have a4:¬(0<d/\(66:UInt8)=66/\t=[]):=fun h=>ht h.2.2
   rw[if_neg a4];simp[ht]
  have a2:¬((66:UInt8)=73\/((66:UInt8)=74/\d=0)\/((66:UInt8)=66/\0<d)):=by
   rintro(h|⟨h,_⟩|⟨_,h⟩)
   ·exact absurd h (by decide)
   ·exact absurd h (by decide)
   exact h0 h
  have a4:¬(0<d/\(66:UInt8)=66/\t=[]):=fun h=>h0 h.1
  rw[if_neg a2,if_neg a3,if_neg a4,M4];simp
 have a2:¬(c=73\/(c=74/\d=0)\/(c=66/\0<d)):=by
  rintro(h|⟨h,_⟩|⟨h,_⟩)
  ·exact XK h
  ·exact Ye h
  exact TE h
 have a4:¬(0<d/\c=66/\t=[]):=fun h=>TE h.2.1
 rw[if_neg a2,if_neg a4];by_cases h76:c=76
 ·subst h76;rw[if_pos rfl];have hb:=E3n t;rw[mK]at hb;have ZN:(decide ((76:UInt8)=73/\t=[])||(decide (d=0)&&decide ((76:UInt8)=74/\t=[])))=false:=by simp
  rw[<-Bool.or_assoc,ZN,Bool.false_or,Bool.eq_iff_iff,hb,decide_eq_true_iff];constructor
  ·rintro⟨b1,b2,b3⟩;rw[if_pos ⟨b1,b2⟩];omega
  intro h;by_cases hc:(Lib.cut t [59]).2.2=true/\classB (Lib.cut t [59]).1=true
  ·rw[if_pos hc]at h;exact⟨hc.1,hc.2,by omega⟩
  rw[if_neg hc]at h;omega
 rw[if_neg h76,M4];simp[XK,Ye,h76]
theorem D3i{s:List UInt8}{k:Nat}(hk:k<=s.length)(h:typeB (s.take k)=true):xH s=k:=by
 have:=E3h h (s.drop k);rw[List.take_append_drop,List.length_take]at this;omega
theorem iJ:∀(f n:Nat) (s:List UInt8),n+f=s.length+1->(xH s=0\/n<=xH s)->sS f n s=xH s
 |0,n,s,hn,h=>by
  have:=qi s;simp only[sS]
  rcases h with h|h<;>omega
 |f+1,n,s,hn,h=>by
  unfold sS;rw[mf];by_cases ht:typeB (s.take n)=true
  ·rw[if_pos ht];exact(D3i (by omega) ht).symm
  rw[if_neg ht];refine iJ f (n+1) s (by omega) ?_
  rcases h with h|h
  ·exact .inl h
  rcases Nat.lt_or_ge n (xH s)with h1|h1
  ·exact .inr h1
  have:n=xH s:=by omega
  by_cases h0:xH s=0
  ·exact .inl h0
  exact absurd (by rw[this];exact D8s h0) ht
theorem D7p(s:List UInt8):sS s.length 1 s=xH s:=iJ s.length 1 s (by omega) (by omega)
end
section
open Go.ChangeShapes Go.WideShapes Go.ChangeAt Go.RowKit
theorem uw(s:List UInt8):(⟨s.toArray⟩:ByteArray).size=s.length:=by simp[ByteArray.size]
theorem gf(w:World)(s:List UInt8)(n:Nat)(h:n<=s.length)(hs:s.length<=281474976710656):
  (Instr.slice 9 (.string ⟨s.toArray⟩) none (some (.int .i64 (n:Nat))) none).run prog w= .ok (.string ⟨(s.take n).toArray⟩) w:=by
 rw[run_slice_string_to_if w 9 _ .i64 _ underlying9,if_pos (by rw[uw];omega)];congr 2;apply ByteArray.ext;rw[Int.toNat_natCast];apply Array.toList_inj.1;rw[Lib.extract_data];simp
theorem ru(w:World)(s:List UInt8)(n:Nat)(h:n<=s.length)(hs:s.length<=281474976710656):
  (Instr.slice 9 (.string ⟨s.toArray⟩) (some (.int .i64 (n:Nat))) none none).run prog w= .ok (.string ⟨(s.drop n).toArray⟩) w:=by
 rw[run_slice_string_from_if w 9 _ .i64 _ underlying9,if_pos (by rw[uw];omega)];congr 2;apply ByteArray.ext;rw[Int.toNat_natCast];apply Array.toList_inj.1;rw[Lib.extract_data];simp;rw[uw,List.take_of_length_le (by rw[List.length_drop];omega)]
theorem g8(w:World)(s:List UInt8)(n m:Nat)(h:n<=m)(hm:m<=s.length)(hs:s.length<=281474976710656):
  (Instr.slice 9 (.string ⟨s.toArray⟩) (some (.int .i64 (n:Nat))) (some (.int .i64 (m:Nat))) none).run prog w= .ok (.string ⟨((s.take m).drop n).toArray⟩) w:=by
 rw[run_slice_string w 9 _ .i64 .i64 _ _ underlying9 (by omega) (by omega) (by rw[uw];omega)];congr 2;apply ByteArray.ext;rw[Int.toNat_natCast,Int.toNat_natCast];apply Array.toList_inj.1;rw[Lib.extract_data];simp;rw[List.drop_take]
theorem E1z(t:List UInt8):(Lib.cut t [59]).1.length<=t.length:=by
 by_cases h:(Lib.cut t [59]).2.2=true
 ·have:=congrArg List.length (q' h).1;simp only[List.length_append,List.length_cons]at this;omega
 by_cases h1:Lib.index t [59]= -1
 ·rw[fS 59 t h1];exact Nat.le_refl _
 have hg:=Lib.index_ge t [59];obtain⟨i,hi⟩:∃i:Nat,Lib.index t [59]=i:=⟨(Lib.index t [59]).toNat,by omega⟩;rw[k' 59 t i hi]at h;exact absurd rfl h
theorem fB(w:World)(s:List UInt8)(hl:s.length<=65536)(hv:VW w):Calls prog 51 #[.string ⟨s.toArray⟩] w fun e w'=>e= .returned (.string ⟨(s.take (xH s)).toArray⟩)/\Below w.heap.size w w':=by
 obtain⟨d,hd⟩:=Z8 (yr s);obtain⟨B,hB⟩:=Z8 (s.drop d);have Pg:d<=s.length:=by rw[hd];exact qj s
 have Cw:B.length=s.length-d:=by rw[hB,List.length_drop]
 have hcut:xH s=uE d B:=by unfold xH;rw[hB,hd]
 have HT:=Z' (show Calls prog 95 #[.string ⟨s.toArray⟩,.string ⟨#[91]⟩] w fun e w'=>e= .returned (.string ⟨B.toArray⟩)/\w'=w by
  have:=Tryz.strings_TrimLeft_one ⟨s.toArray⟩ 91 (by decide) w;rw[show Lib.trimLeftB (⟨s.toArray⟩:ByteArray).data.toList 91=B by unfold Lib.trimLeftB;rw[hB,hd];exact D3z s]at this;exact this)
 have PR:=fun w' n (h:n<=s.length)=>gf w' s n h (by omega)
 have Nw:(s.length:Int) -(B.length:Int)=(d:Int):=by omega
 have WB:=hv;have HV:=Z' hv;have Zp:=Z' (Below.refl w.heap.size w);have Bs:=Z' Cw;rw[hcut];clear hv hcut hd Cw
 cases B with
 |nil=>
  clear PR hB;go_enter func51,ntmps51
  go_wp2_with fail
  refine HT.out.mono ?_;rintro e w1 ⟨rfl,rfl⟩
  go_wp2_with fail
  go_ret;exact⟨rfl,Zp.out⟩
 |cons c t=>
 have Me:t.length+1=s.length-d:=Bs.out;have hsub2:(s.length:Int) -((t.length:Int)+1)=(d:Int):=by omega
 have QP:=fun w'=>show(Instr.slice 9 (.string ⟨s.toArray⟩) none (some (.int .i64 ((d:Int)+1))) none).run prog w'= .ok (.string ⟨(s.take (d+1)).toArray⟩) w' from PR w' (d+1) (by omega)
 have SK:=fun w'=>show(Instr.slice 9 (.string ⟨(c::t).toArray⟩) (some (.int .i64 1)) none none).run prog w'= .ok (.string ⟨t.toArray⟩) w' from ru w' (c::t) 1 (by simp) (by simp;omega)
 have htl2:t.length<=65536:=by omega
 have Rh:(({data:=(c::t).toArray}:ByteArray)[0]'(by rw[uw];simp)).toNat=c.toNat:=rfl;have TJ:=Z' PR;have Qq:=Z' Me;rw[ui]
 have ZF:∀k:Nat,k<256->c≠UInt8.ofNat k->((c.toNat:Int)==(k:Int))=false:=fun k hk h=>by
  rw[beq_eq_false_iff_ne];intro e;apply h;apply UInt8.toNat_inj.1;rw[UInt8.toNat_ofNat_of_lt' (by simpa using hk)];omega
 clear PR hB Me Nw;by_cases h8:8<d
 ·rw[if_pos h8];have d8:(8:Int)<d:=by omega
  clear h8 ZF QP SK;go_enter func51,ntmps51
  go_wp2_with fail
  refine HT.out.mono ?_;rintro e w1 ⟨rfl,rfl⟩
  go_wp2_with fail
  go_ret;exact⟨rfl,Zp.out⟩
 rw[if_neg h8];have d8:¬(8:Int)<d:=by omega
 have d9:(d:Int)<=8:=by omega
 have d0:(0:Int)<=d:=by omega
 have WY:∀k:Nat,k<256->c=UInt8.ofNat k->((c.toNat:Int)==(k:Int))=true:=fun k hk h=>by
  rw[beq_iff_eq,h,UInt8.toNat_ofNat_of_lt' (by simpa using hk)]
 have Ud:=fun(h:d=0) w'=>show(Instr.slice 9 (.string ⟨s.toArray⟩) none (some (.int .i64 1)) none).run prog w'= .ok (.string ⟨(s.take (d+1)).toArray⟩) w' from by
  have:=TJ.out w' (d+1) (by omega);subst h;exact this
 by_cases h1:c=73\/(c=74/\d=0)\/(c=66/\0<d)
 ·rw[if_pos h1];by_cases XK:c=73
  ·have DD:((c.toNat:Int)==73)=true:=WY 73 (by decide) XK;clear h8 h1 XK ZF WY SK Ud;go_enter func51,ntmps51
   go_wp2_with fail
   refine HT.out.mono ?_;rintro e w1 ⟨rfl,rfl⟩
   go_wp2_with fail
   go_ret;exact⟨rfl,Zp.out⟩
  have DD:((c.toNat:Int)==73)=false:=ZF 73 (by decide) XK;by_cases Ye:c=74/\d=0
  ·have G6:((c.toNat:Int)==74)=true:=WY 74 (by decide) Ye.1;have z0:((d:Int)==0)=true:=by rw[Ye.2];rfl
   clear h8 h1 XK Ye ZF WY SK Ud;go_enter func51,ntmps51
   go_wp2_with fail
   refine HT.out.mono ?_;rintro e w1 ⟨rfl,rfl⟩
   go_wp2_with fail
   go_ret;exact⟨rfl,Zp.out⟩
  have TE:c=66/\0<d:=by
   rcases h1 with h|h|h
   ·exact absurd h XK
   ·exact absurd h Ye
   exact h
  have G6:((c.toNat:Int)==74)=false:=ZF 74 (by decide) (by rw[TE.1];decide);have GF:((c.toNat:Int)==66)=true:=WY 66 (by decide) TE.1;have d1:(0:Int)<d:=by omega
  clear h8 h1 XK Ye TE ZF WY SK Ud;go_enter func51,ntmps51
  go_wp2_with fail
  refine HT.out.mono ?_;rintro e w1 ⟨rfl,rfl⟩
  go_wp2_with fail
  go_ret;exact⟨rfl,Zp.out⟩
 rw[if_neg h1];have DD:((c.toNat:Int)==73)=false:=ZF 73 (by decide) (fun h=>h1 (.inl h));have Eu:=Z' (fun(h:¬d=0)=>show((d:Int)==0)=false by rw[beq_eq_false_iff_ne];omega);by_cases h76:c=76
 ·rw[if_pos h76];have zH:((c.toNat:Int)==76)=true:=WY 76 (by decide) h76;have G6:((c.toNat:Int)==74)=false:=ZF 74 (by decide) (by rw[h76];decide);have GF:((c.toNat:Int)==66)=false:=ZF 66 (by decide) (by rw[h76];decide);have hcut:=E4n w t 59 (by omega) WB;have Wt:=E1z t;have Md:=fun h=>congrArg List.length (@q' t h).1
  obtain⟨⟨nm,r,ok⟩,Ja⟩:∃R,Lib.cut t [59]=R:=⟨_,rfl⟩;rw[Ja]at hcut Wt Md⊢;simp only[List.length_append,List.length_cons]at hcut Wt Md⊢;have ML:=Z' hcut;have RL:=Z' (fun w h=>qH w nm (by omega) h);clear hcut Ja
  cases ok with
  |false=>
   rw[if_neg (fun h=>absurd h.1 (by decide))];clear h8 h1 h76 ZF WY Md Ud RL;go_enter func51,ntmps51
   go_wp2_with fail
   refine HT.out.mono ?_;rintro e w1 ⟨rfl,rfl⟩
   go_wp2_with fail
   refine ML.out.mono ?_;rintro e w2 ⟨rfl,ZN,_⟩;have ZT:=Z' ZN;clear ZN
   go_wp2_with fail
   go_ret;exact⟨rfl,ZT.out⟩
  |true=>
  have hy:=Md rfl
  cases NU:classB nm with
  |false=>
   rw[NU]at RL;rw[if_neg (fun h=>absurd h.2 (by decide))];clear h8 h1 h76 ZF WY Md Ud NU hy;go_enter func51,ntmps51
   go_wp2_with fail
   refine HT.out.mono ?_;rintro e w1 ⟨rfl,rfl⟩
   go_wp2_with fail
   refine ML.out.mono ?_;rintro e w2 ⟨rfl,ZN,_⟩;have ZT:=Z' ZN;clear ZN
   go_wp2_with fail
   refine(RL.out w2 (HV.out.below ZT.out)).mono ?_;rintro e w3 ⟨rfl,Zn⟩;have ZG:=Z7 ZT Zn;clear Zn
   go_wp2_with fail
   go_ret;exact⟨rfl,ZG.out⟩
  |true=>
  rw[NU]at RL;rw[if_pos ⟨rfl,rfl⟩];have hto3:=fun w'=>show(Instr.slice 9 (.string ⟨s.toArray⟩) none (some (.int .i64 ((d:Int)+(nm.length:Int)+2))) none).run prog w'= .ok (.string ⟨(s.take (d+nm.length+2)).toArray⟩) w' from TJ.out w' (d+nm.length+2) (by have:=Qq.out;omega)
  have b1:(nm.length:Int)<=65536:=by omega
  clear h8 h1 h76 ZF WY Md Ud QP NU hy;go_enter func51,ntmps51
  go_wp2_with fail
  refine HT.out.mono ?_;rintro e w1 ⟨rfl,rfl⟩
  go_wp2_with fail
  refine ML.out.mono ?_;rintro e w2 ⟨rfl,ZN,_⟩;have ZT:=Z' ZN;clear ZN
  go_wp2_with fail
  refine(RL.out w2 (HV.out.below ZT.out)).mono ?_;rintro e w3 ⟨rfl,Zn⟩;have ZG:=Z7 ZT Zn;clear Zn
  go_wp2_with fail
  go_ret;exact⟨rfl,ZG.out⟩
 rw[if_neg h76];have zH:((c.toNat:Int)==76)=false:=ZF 76 (by decide) h76;by_cases Ye:c=74
 ·have G6:((c.toNat:Int)==74)=true:=WY 74 (by decide) Ye;have z0:=Eu.out (fun h=>h1 (.inr (.inl ⟨Ye,h⟩)));have GF:((c.toNat:Int)==66)=false:=ZF 66 (by decide) (by rw[Ye];decide);clear h8 h1 Ye h76 ZF WY SK QP Ud;go_enter func51,ntmps51
  go_wp2_with fail
  refine HT.out.mono ?_;rintro e w1 ⟨rfl,rfl⟩
  go_wp2_with fail
  go_ret;exact⟨rfl,Zp.out⟩
 have G6:((c.toNat:Int)==74)=false:=ZF 74 (by decide) Ye;by_cases TE:c=66
 ·have GF:((c.toNat:Int)==66)=true:=WY 66 (by decide) TE;have d1:¬(0:Int)<d:=fun h=>h1 (.inr (.inr ⟨TE,by omega⟩))
  clear h8 h1 Ye h76 TE ZF WY SK QP Ud;go_enter func51,ntmps51
  go_wp2_with fail
  refine HT.out.mono ?_;rintro e w1 ⟨rfl,rfl⟩
  go_wp2_with fail
  go_ret;exact⟨rfl,Zp.out⟩
 have GF:((c.toNat:Int)==66)=false:=ZF 66 (by decide) TE;clear h8 h1 Ye h76 TE ZF WY SK QP Ud;go_enter func51,ntmps51
 go_wp2_with fail
 refine HT.out.mono ?_;rintro e w1 ⟨rfl,rfl⟩
 go_wp2_with fail
 go_ret;exact⟨rfl,Zp.out⟩
def xX(x:List UInt8):Value:= .string ⟨x.toArray⟩
theorem E4q(s:List UInt8)(n:Nat)(h:n<=s.length):(s.take n==s)=decide (n=s.length):=by
 rw[Bool.eq_iff_iff,beq_iff_eq,decide_eq_true_iff];constructor
 ·intro e;have:=congrArg List.length e;rw[List.length_take]at this;omega
 intro e;rw[e,List.take_length]
theorem ub(w:World)(s:List UInt8)(hl:s.length<=65536)(hv:VW w):Calls prog 23 #[.string ⟨s.toArray⟩] w fun e w'=>e= .returned (.bool (typeB s))/\Below w.heap.size w w':=by
 have HC:=Z' (fB w s hl hv);have Zp:=Z' (Below.refl w.heap.size w);have he:=E4q s (xH s) (qi s)
 cases s with
 |nil=>
  clear he;go_enter func23,ntmps23
  go_wp2_with fail
  go_ret;exact⟨rfl,Zp.out⟩
 |cons c t=>
 obtain⟨r,hr⟩:=Z8 (decide (xH (c::t)=(c::t).length));have HT:=Z' (show typeB (c::t)=r by rw[hr];rfl);rw[<-hr]at he;clear hr hl;generalize(c::t).take (xH (c::t))=u at*;go_enter func23,ntmps23
 go_wp2_with fail
 refine HC.out.mono ?_;rintro e w1 ⟨rfl,ZQ⟩;have ZM:=Z' ZQ;clear ZQ
 go_wp2_with fail
 go_ret;exact⟨vy HT.out.symm,ZM.out⟩
theorem pB(n:Nat)(s:List UInt8)(h:s=[]\/s.head? =some 41):uV n s=some s:=by
 unfold uV;rw[if_pos h]
theorem pC(c:UInt8)(t:List UInt8)(h:¬c=41):uV 0 (c::t)=none:=by
 have:¬(c::t=[]\/(c::t).head? =some 41):=by simp[h]
 unfold uV;rw[if_neg this]
theorem pw(n:Nat)(c:UInt8)(t:List UInt8)(h:¬c=41):uV (n+1) (c::t)=if xH (c::t)=0 then none else uV n ((c::t).drop (xH (c::t))):=by
 have:¬(c::t=[]\/(c::t).head? =some 41):=by simp[h]
 rw[uV,if_neg this]
theorem i9(r:List UInt8):xY (40::r)=rF (uV 16 r):=by
 simp[xY]
def fq(b:Bool)(w:World)(e:Ending)(w':World):Prop:=(∃v1 v2,e= .returned (.tuple #[v1,v2,.int .i64 (if b then 0 else 8)]))/\Below w.heap.size w w'
theorem uN:tM 86 9 (.string ⟨#[]⟩) 16:=⟨underlying86,by kernel_rfl,rfl⟩
theorem aS(w:World)(s:List UInt8)(hl:s.length<=65536)(hv:VW w):Calls prog 97 #[.string ⟨s.toArray⟩] w (fq (xY s) w):=by
 have HV:=Z' hv;have Zp:=Z' (Below.refl w.heap.size w);have HP:=Z' (fun w (s:List UInt8)=>Tryz.strings_CutPrefix ⟨s.toArray⟩ ⟨#[40]⟩ w);have Wx:=Z' (fun w (s:List UInt8)=>Tryz.strings_CutPrefix ⟨s.toArray⟩ ⟨#[41]⟩ w);clear hv;by_cases h40:s.head? =some 40
 ·obtain⟨r,rfl⟩:∃r,s=40::r:=by
   cases s with
   |nil=>simp at h40
   |cons c r=>simp at h40;exact⟨r,by rw[h40]⟩
  rw[i9];have hp:=HP.out w (40::r);rw[show Lib.trimPrefix (⟨(40::r).toArray⟩:ByteArray).data.toList (⟨#[40]⟩:ByteArray).data.toList=r by simp[Lib.trimPrefix,Lib.hasPrefix],show Lib.hasPrefix (⟨(40::r).toArray⟩:ByteArray).data.toList (⟨#[40]⟩:ByteArray).data.toList=true by simp[Lib.hasPrefix]]at hp;have Xs:=Z' hp;have Sy:r.length<=65536:=by simp at hl;omega
  obtain⟨A0,hA0⟩:=Z8 (uV 16 r);have L8:=Z' hA0;rw[<-hA0];obtain⟨T,hT⟩:=Z8 (rF A0);have Y8:=Z' hT;rw[<-hT];clear hp HP h40 hl hA0 hT;go_enter func97,ntmps97
  go_wp2_with fail
  refine Xs.out.mono ?_;rintro e w1 ⟨rfl,rfl⟩
  go_wp2_with fail
  go_loopg [5,7] 17 (fun gn sv av wr=>∃(k:Nat) (r:List UInt8) (L:List (List UInt8)) (a:Option Addr) (c:Nat),k<=16/\gn=17-k/\sv= .string ⟨r.toArray⟩/\av= .slice a k c/\r.length<=65536/\Hid (uV (16-k) r=A0)/\Hid (wr.ownsRow w1.heap.size 9 1 (.slice a k c) k (L.map xX))/\Hid (Below w1.heap.size w1 wr))
  case atStart=>exact⟨0,r,[],none,0,by omega,by omega,rfl,rfl,Sy,Z' L8.out.symm,Z' (World.ownsRow_nil _ _ _ _),Zp⟩
  obtain⟨k,r,L,a,c,hk,rfl,rfl,rfl,Sy,HA,HO,HB⟩:=hrel
  cases r with
  |nil=>
   have hT:T=false:=by rw[Y8.out,<-HA.out,pB _ _ (.inl rfl)];rfl
   subst hT;have hp:=Wx.out wr [];rw[show Lib.trimPrefix (⟨([]:List UInt8).toArray⟩:ByteArray).data.toList (⟨#[41]⟩:ByteArray).data.toList=[]from rfl,show Lib.hasPrefix (⟨([]:List UInt8).toArray⟩:ByteArray).data.toList (⟨#[41]⟩:ByteArray).data.toList=false from rfl]at hp;have WC:=Z' hp;clear hp Wx
   go_wp2_with fail
   refine WC.out.mono ?_;rintro e w2 ⟨rfl,rfl⟩
   go_wp2_with fail
   go_ret3;exact⟨⟨_,_,rfl⟩,HB.out⟩
  |cons d t=>
  have Rh:(({data:=(d::t).toArray}:ByteArray)[0]'(by rw[uw];simp)).toNat=d.toNat:=rfl;by_cases h41:d=41
  ·have Ei:((d.toNat:Int)==41)=true:=by rw[h41];rfl
   have hA:A0=some (d::t):=by rw[<-HA.out,pB _ _ (.inr (by rw[h41];rfl))]
   have hp:=Wx.out wr (d::t);rw[show Lib.trimPrefix (⟨(d::t).toArray⟩:ByteArray).data.toList (⟨#[41]⟩:ByteArray).data.toList=t by subst h41;simp[Lib.trimPrefix,Lib.hasPrefix],show Lib.hasPrefix (⟨(d::t).toArray⟩:ByteArray).data.toList (⟨#[41]⟩:ByteArray).data.toList=true by subst h41;simp[Lib.hasPrefix]]at hp;have WC:=Z' hp;have Rp:=Z' (show T=(decide (t=[86])||typeB t) by rw[Y8.out,hA,h41];simp[rF]);have Me:t.length<=65536:=by simp at Sy;omega
   have MM:=Z' (fun w h=>ub w t Me h);obtain⟨y,hy⟩:=Z8 (typeB t);rw[<-hy]at Rp MM;clear hp Wx hA h41 Sy hy;by_cases h86:t=[86]
   ·have hT:T=true:=by rw[Rp.out,decide_eq_true h86,Bool.true_or]
    subst hT h86
    go_wp2_with fail
    refine WC.out.mono ?_;rintro e w2 ⟨rfl,rfl⟩
    go_wp2_with fail
    go_ret3;exact⟨⟨_,_,rfl⟩,HB.out⟩
   have hT:T=y:=by rw[Rp.out,decide_eq_false h86,Bool.false_or]
   subst hT;have he:(t==[86])=false:=by simpa using h86
   clear h86
   go_wp2_with fail
   refine WC.out.mono ?_;rintro e w2 ⟨rfl,rfl⟩
   go_wp2_with fail
   refine(MM.out w2 (HV.out.below HB.out)).mono ?_;rintro e w3 ⟨rfl,Zn⟩;have ZG:=Z7 HB Zn;clear Zn
   cases T
   ·go_wp2_with fail
    go_ret3;exact⟨⟨_,_,rfl⟩,ZG.out⟩
   go_wp2_with fail
   go_ret3;exact⟨⟨_,_,rfl⟩,ZG.out⟩
  have Ei:((d.toNat:Int)==41)=false:=by
   rw[beq_eq_false_iff_ne];intro h;exact h41 (UInt8.toNat_inj.1 (by rw[show(41:UInt8).toNat=41 from rfl];omega))
  obtain⟨m,hm⟩:=Z8 (xH (d::t));have UH:=qi (d::t);have Sb:=Z' (fB wr (d::t) Sy (HV.out.below HB.out));rw[<-hm]at Sb UH;by_cases h0:m=0
  ·have hT:T=false:=by
    rw[Y8.out,<-HA.out];by_cases Y2:k=16
    ·subst Y2;rw[pC d t h41];rfl
    rw[show 16-k=(15-k)+1 by omega,pw _ d t h41,<-hm,if_pos h0];rfl
   subst hT;rw[h0,List.take_zero]at Sb;clear HA hm UH h0 h41 Wx
   go_wp2_with fail
   refine Sb.out.mono ?_;rintro e w2 ⟨rfl,ZN⟩;have ZT:=Z7 HB ZN;clear ZN
   go_wp2_with fail
   go_ret3;exact⟨⟨_,_,rfl⟩,ZT.out⟩
  obtain⟨m1,Ru⟩:∃m1,m=m1+1:=⟨m-1,by omega⟩;have HU:=Z' (show(d::t).take m=d::t.take m1 by rw[Ru,List.take_succ_cons]);rw[HU.out]at Sb;have Lf:=Z' (show(t.take m1).length=m1 by rw[List.length_take];simp at UH;omega);by_cases Y2:k=16
  ·have hT:T=false:=by
    rw[Y8.out,<-HA.out];subst Y2;rw[pC d t h41];rfl
   subst hT;have EB:((k:Int)==16)=true:=by rw[Y2];rfl
   generalize t.take m1=u at*;clear HA hm UH h0 h41 Wx Y2 hk
   go_wp2_with fail
   refine Sb.out.mono ?_;rintro e w2 ⟨rfl,ZN⟩;have ZT:=Z7 HB ZN;clear ZN
   go_wp2_with fail
   go_ret3;exact⟨⟨_,_,rfl⟩,ZT.out⟩
  have EB:((k:Int)==16)=false:=by rw[beq_eq_false_iff_ne];omega
  have WP:=Z' (show uV (16-(k+1)) ((d::t).drop m)=A0 by
   rw[<-HA.out,show 16-k=(16-(k+1))+1 by omega,pw _ d t h41,<-hm,if_neg h0])
  have SK:=fun w'=>show(Instr.slice 9 (.string ⟨(d::t).toArray⟩) (some (.int .i64 ((m1:Int)+1))) none none).run prog w'= .ok (.string ⟨((d::t).drop m).toArray⟩) w' from by
   have:=ru w' (d::t) m UH (by omega);subst Ru;exact this
  have Pb:=Z' (show((d::t).drop m).length<=65536 by rw[List.length_drop];omega);have JY:=Z' (fun W=>(wE (w':=W) HO.out));have Fr:=Lf.out;generalize(d::t).drop m=r2 at*;generalize t.take m1=u at*;subst Fr;have Bq:k<=15:=by omega
  have FG:(0:Int)<=(u.length:Int)+1:=by omega
  clear hm UH h0 h41 Wx Y2 hk Ru HA HU Lf
  go_wp2_with fail
  refine Sb.out.mono ?_;rintro e w2 ⟨rfl,ZN⟩;have ZT:=Z7 HB ZN;have Ts:=Z' (JY.out w2 ZN);clear ZN JY
  go_wp2_with fail
  go_region_law ((refine nj uN (by rfl) _ _ (by rfl) w1.heap.size _ _ _ (by rfl) Ts.out.drew _ 1 _ (by rfl) (by rfl) (by rfl) (by omega) (by unfold maxLen;omega) ZT.out.size ?_;intro v3 w3 Xg Qa Zn))
  obtain⟨a3,c3,rfl,_,_⟩:=Sl.ofOwn (enc:=xX) (xs:=L++[d::u]) (by rw[List.map_append];exact Xg);have VX:=Z' (show w3.ownsRow w1.heap.size 9 1 (.slice a3 (k+1) c3) (k+1) ((L++[d::u]).map xX) by rw[List.map_append];exact Xg);have ZG:=Z' (ZT.out.trans ((Z6.drew).trans Zn));clear Xg Qa Zn
  go_wp2_with fail
  go_roundg (17-(k+1))
  case measure=>omega
  exact⟨k+1,r2,L++[d::u],a3,c3,by omega,rfl,rfl,rfl,Pb.out,WP,VX,ZG⟩
 have hT:xY s=false:=by
  cases s with
  |nil=>rfl
  |cons c r=>
  have:¬c=40:=fun h=>h40 (by rw[h];rfl)
  simp[xY,this]
 rw[hT];have hp:=HP.out w s
 rw[show Lib.hasPrefix (⟨s.toArray⟩:ByteArray).data.toList (⟨#[40]⟩:ByteArray).data.toList=false by
  cases s with
  |nil=>rfl
  |cons c r=>
  have:¬c=40:=fun h=>h40 (by rw[h];rfl)
  simp[Lib.hasPrefix,List.isPrefixOf,Ne.symm this]]at hp
 have Xs:=Z' hp;clear hp HP hT h40;go_enter func97,ntmps97
 go_wp2_with fail
 refine Xs.out.mono ?_;rintro e w1 ⟨rfl,rfl⟩
 go_wp2_with fail
 go_ret3;exact⟨⟨_,_,rfl⟩,Zp.out⟩
def uT(c:List UInt8):List UInt8:=76::(c++[59])
def vr(t:List UInt8):Bool:=decide (2<=t.length)&&(decide (t.head? =some 76)&&decide (t.getLast? =some 59))
def u'(t:List UInt8):List UInt8:=if vr t then(t.take (t.length-1)).drop 1 else []
theorem fi(s:List UInt8)(c:UInt8):Lib.hasPrefix s [c]=decide (s.head? =some c):=by
 cases s with
 |nil=>rfl
 |cons d t=>
 rw[Bool.eq_iff_iff];simp[Lib.hasPrefix,List.isPrefixOf];exact eq_comm
theorem E2n(s:List UInt8)(c:UInt8):Lib.hasSuffix s [c]=decide (s.getLast? =some c):=by
 rw[Bool.eq_iff_iff,decide_eq_true_iff,Lib.hasSuffix,List.isSuffixOf_iff_suffix];constructor
 ·rintro⟨q,rfl⟩;simp
 intro h;obtain⟨q,hq⟩:=List.getLast?_eq_some_iff.1 h;exact⟨q,hq.symm⟩
theorem D1u(w:World)(s:List UInt8)(hl:s.length<=65536):Calls prog 105 #[.string ⟨s.toArray⟩] w fun e w'=>e= .returned (.string ⟨(uT s).toArray⟩)/\w'=w:=by
 have n1:¬9223372036854775807<1+s.length:=by omega
 have n2:¬9223372036854775807<1+s.length+1:=by omega
 have he:((⟨#[76]⟩:ByteArray)++(⟨s.toArray⟩:ByteArray))++(⟨#[59]⟩:ByteArray)=⟨(uT s).toArray⟩:=by
  rw[show(⟨#[76]⟩:ByteArray)=⟨[76].toArray⟩from rfl,show(⟨#[59]⟩:ByteArray)=⟨[59].toArray⟩from rfl,nQ,nQ];rfl
 have HE:=Z' he;clear he;go_enter func105,ntmps105
 go_wp2_with fail
 go_ret;exact⟨by rw[<-HE.out];rfl,rfl⟩
theorem pM(w:World)(s:List UInt8)(hl:s.length<=65536)(hv:VW w):Calls prog 49 #[.string ⟨s.toArray⟩] w fun e w'=>e= .returned (.bool (x6 s))/\Below w.heap.size w w':=by
 have hp:=Tryz.strings_HasPrefix ⟨s.toArray⟩ ⟨#[91]⟩ w;rw[show Lib.hasPrefix (⟨s.toArray⟩:ByteArray).data.toList (⟨#[91]⟩:ByteArray).data.toList=decide (s.head? =some 91)from fi s 91]at hp;obtain⟨y,hy⟩:=Z8 (decide (s.head? =some 91));have HR:=Z' (show x6 s=(y&&typeB s) by rw[hy];rfl);rw[<-hy]at hp;have HP:=Z' hp;have HT:=Z' (ub w s hl hv);have Zp:=Z' (Below.refl w.heap.size w);generalize x6 s=R at*;generalize typeB s=T at*;clear hp hy hv;go_enter func49,ntmps49
 go_wp2_with fail
 refine HP.out.mono ?_;rintro e w1 ⟨rfl,rfl⟩
 cases y
 ·go_wp2_with fail
  go_ret;exact⟨vy (by rw[HR.out];rfl),Zp.out⟩
 go_wp2_with fail
 refine HT.out.mono ?_;rintro e w2 ⟨rfl,ZN⟩;have ZT:=Z' ZN;clear ZN
 go_wp2_with fail
 go_ret;exact⟨vy (by rw[HR.out];rfl),ZT.out⟩
theorem rx(w:World)(s:List UInt8)(hl:s.length<=65536)(hv:VW w):Calls prog 52 #[.string ⟨s.toArray⟩] w fun e w'=>e= .returned (.bool (xY s))/\Below w.heap.size w w':=by
 have HM:=Z' (aS w s hl hv);generalize xY s=T at*;clear hv hl
 cases T
 ·go_enter func52,ntmps52
  go_wp2_with fail
  refine HM.out.mono ?_;rintro e w1 ⟨⟨v1,v2,rfl⟩,hb⟩;simp only[Bool.false_eq_true,if_false]
  go_wp2_with fail
  go_ret;exact⟨rfl,hb⟩
 go_enter func52,ntmps52
 go_wp2_with fail
 refine HM.out.mono ?_;rintro e w1 ⟨⟨v1,v2,rfl⟩,hb⟩;simp only[if_true]
 go_wp2_with fail
 go_ret;exact⟨rfl,hb⟩
theorem iN:∀(s:List UInt8),decide (0<=Lib.indexByte s 47)=s.contains 47
 |[]=>rfl
 |c::s=>by
  have ih:=iN s;have hg:=Lib.indexByte_ge s 47;rw[List.contains_cons,<-ih,Lib.indexByte];by_cases h:c=47
  ·subst h;simp
  have h1:(c==47)=false:=by simpa using h
  have h2:((47:UInt8)==c)=false:=by simpa using Ne.symm h
  rw[h1,h2,Bool.false_or];simp only[Bool.false_eq_true,if_false];by_cases h3:Lib.indexByte s 47= -1
  ·rw[h3];rfl
  rw[if_neg (by simpa using h3)];apply decide_eq_decide.2;omega
theorem sF(w:World)(s:List UInt8)(hl:s.length<=65536)(hv:VW w):Calls prog 17 #[.string ⟨s.toArray⟩] w fun e w'=>e= .returned (.bool (yk s))/\Below w.heap.size w w':=by
 have hp:=Tryz.strings_Contains_one ⟨s.toArray⟩ 47 w;rw[show decide (0<=Lib.indexByte (⟨s.toArray⟩:ByteArray).data.toList 47)=s.contains 47 from iN s]at hp;obtain⟨y,hy⟩:=Z8 (s.contains 47);have HR:=Z' (show yk s=(!y&&classB s) by rw[hy];rfl);rw[<-hy]at hp;have HP:=Z' hp;have HT:=Z' (qH w s (by omega) hv);have Zp:=Z' (Below.refl w.heap.size w);generalize yk s=R at*;generalize classB s=T at*;clear hp hy hv;go_enter func17,ntmps17
 go_wp2_with fail
 refine HP.out.mono ?_;rintro e w1 ⟨rfl,rfl⟩
 cases y
 ·go_wp2_with fail
  refine HT.out.mono ?_;rintro e w2 ⟨rfl,ZN⟩;have ZT:=Z' ZN;clear ZN
  go_wp2_with fail
  go_ret;exact⟨vy (by rw[HR.out];rfl),ZT.out⟩
 go_wp2_with fail
 go_ret;exact⟨vy (by rw[HR.out];rfl),Zp.out⟩
theorem cL(w:World)(s:List UInt8)(hl:s.length<=65536):Calls prog 124 #[.string ⟨s.toArray⟩] w fun e w'=>e= .returned (.tuple #[.string ⟨(u' s).toArray⟩,.bool (vr s)])/\w'=w:=by
 have hp:=fun w=>Tryz.strings_HasPrefix ⟨s.toArray⟩ ⟨#[76]⟩ w
 rw[show Lib.hasPrefix (⟨s.toArray⟩:ByteArray).data.toList (⟨#[76]⟩:ByteArray).data.toList=decide (s.head? =some 76)from fi s 76]at hp;have hq:=fun w=>Tryz.strings_HasSuffix ⟨s.toArray⟩ ⟨#[59]⟩ w (by rw[uw];omega)
 rw[show Lib.hasSuffix (⟨s.toArray⟩:ByteArray).data.toList (⟨#[59]⟩:ByteArray).data.toList=decide (s.getLast? =some 59)from E2n s 59]at hq;have HK:vr s=(decide (2<=s.length)&&(decide (s.head? =some 76)&&decide (s.getLast? =some 59))):=rfl;generalize decide (s.head? =some 76)=p1 at*;generalize decide (s.getLast? =some 59)=p2 at*;have HP:=Z' hp;have HQ:=Z' hq;by_cases h2:s.length<2
 ·have n2:(s.length:Int)<2:=by omega
  have hk:vr s=false:=by rw[HK,decide_eq_false (by omega)];rfl
  have PH:u' s=[]:=by unfold u';rw[hk];rfl
  rw[hk,PH];clear hp hq HK h2 hk PH;go_enter func124,ntmps124
  go_wp2_with fail
  go_ret2;exact⟨rfl,rfl⟩
 have n2:¬(s.length:Int)<2:=by omega
 rw[decide_eq_true (by omega),Bool.true_and]at HK
 have zE:=fun w'=>show(Instr.slice 9 (.string ⟨s.toArray⟩) (some (.int .i64 1)) (some (.int .i64 ((s.length:Int) -1))) none).run prog w'= .ok (.string ⟨((s.take (s.length-1)).drop 1).toArray⟩) w' from by
  have:=g8 w' s 1 (s.length-1) (by omega) (by omega) (by omega);rw[show(((s.length-1:Nat)):Int)=(s.length:Int) -1 by omega]at this;exact this
 have PH:u' s=if vr s then(s.take (s.length-1)).drop 1 else []:=rfl
 generalize u' s=V at*;generalize vr s=B at*;generalize(s.take (s.length-1)).drop 1=M at*;clear hp hq h2
 cases p1
 ·have hB:B=false:=HK;subst hB;simp only[Bool.false_eq_true,if_false]at PH;subst PH;clear HK;go_enter func124,ntmps124
  go_wp2_with fail
  refine(HP.out w).mono ?_;rintro e w1 ⟨rfl,rfl⟩
  go_wp2_with fail
  go_ret2;exact⟨rfl,rfl⟩
 cases p2
 ·have hB:B=false:=HK;subst hB;simp only[Bool.false_eq_true,if_false]at PH;subst PH;clear HK;go_enter func124,ntmps124
  go_wp2_with fail
  refine(HP.out w).mono ?_;rintro e w1 ⟨rfl,rfl⟩
  go_wp2_with fail
  refine(HQ.out w1).mono ?_;rintro e w2 ⟨rfl,rfl⟩
  go_wp2_with fail
  go_ret2;exact⟨rfl,rfl⟩
 have hB:B=true:=HK;subst hB;simp only[if_true]at PH;subst PH;clear HK;go_enter func124,ntmps124
 go_wp2_with fail
 refine(HP.out w).mono ?_;rintro e w1 ⟨rfl,rfl⟩
 go_wp2_with fail
 refine(HQ.out w1).mono ?_;rintro e w2 ⟨rfl,rfl⟩
 go_wp2_with fail
 go_ret2;exact⟨rfl,rfl⟩
theorem nN(w:World)(s:List UInt8)(i:Nat)(h:i<s.length):(Instr.index 9 (.string ⟨s.toArray⟩) (.int .i64 (i:Nat))).run prog w= .ok (.int .u8 (s[i].toNat:Int)) w:=by
 have h1:(i:Int)<s.length:=by omega
 have h2:(⟨s.toArray⟩:ByteArray).size=s.length:=uw s;have h3:(({data:=s.toArray}:ByteArray)[i]'(by rw[uw];exact h)).toNat=s[i].toNat:=rfl;simp[go_sem,Instr.index,underlying9,h,h1,h2,h3]
theorem D7m(w:World)(s:List UInt8)(hl:s.length<=65536):Calls prog 64 #[.string ⟨s.toArray⟩] w fun e w'=>e= .returned (.bool (objR s))/\w'=w:=by
 by_cases h3:3<=s.length
 ·have i0:=fun w'=>show(Instr.index 9 (.string ⟨s.toArray⟩) (.int .i64 0)).run prog w'=_ from nN w' s 0 (by omega)
  have i1:=fun w'=>show(Instr.index 9 (.string ⟨s.toArray⟩) (.int .i64 ((s.length:Int) -1))).run prog w'= .ok (.int .u8 ((s[s.length-1]'(by omega)).toNat:Int)) w' from by
   have:=nN w' s (s.length-1) (by omega);rw[show(((s.length-1:Nat)):Int)=(s.length:Int) -1 by omega]at this;exact this
  have zE:=fun w'=>show(Instr.slice 9 (.string ⟨s.toArray⟩) (some (.int .i64 1)) (some (.int .i64 ((s.length:Int) -1))) none).run prog w'= .ok (.string ⟨((s.drop 1).take (s.length-2)).toArray⟩) w' from by
   have:=g8 w' s 1 (s.length-1) (by omega) (by omega) (by omega);rw[show(((s.length-1:Nat)):Int)=(s.length:Int) -1 by omega,List.drop_take]at this;exact this
  have HC:=Z' (fun w=>tu w ((s.drop 1).take (s.length-2)) (by rw[List.length_take,List.length_drop];omega))
  have hO:objR s=(decide (s[0]=76)&&(decide (s[s.length-1]=59)&&classB ((s.drop 1).take (s.length-2)))):=by
   unfold objR;rw[decide_eq_true h3,Bool.true_and];congr 1
   ·rw[List.head?_eq_getElem?,List.getElem?_eq_getElem (by omega)];simp
   congr 1;rw[List.getLast?_eq_getElem?,List.getElem?_eq_getElem (by omega)];simp
  have HO:=Z' hO;have n3:decide ((3:Int)<=s.length)=true:=by simp;omega
  have FH:∀(c:UInt8) (k:Nat),k<256->((c.toNat:Int)==(k:Int))=decide (c=UInt8.ofNat k):=fun c k hk=>by
   rw[Bool.eq_iff_iff,beq_iff_eq,decide_eq_true_iff];constructor
   ·intro h;apply UInt8.toNat_inj.1;rw[UInt8.toNat_ofNat_of_lt' (by simpa using hk)];omega
   rintro rfl;rw[UInt8.toNat_ofNat_of_lt' (by simpa using hk)]
  generalize(s.drop 1).take (s.length-2)=M at*;generalize objR s=R at*;generalize s[0]=a at*;generalize s[s.length-1]=b at*;have ya:((a.toNat:Int)==76)=decide (a=76):=FH a 76 (by decide);have yb:((b.toNat:Int)==59)=decide (b=59):=FH b 59 (by decide);generalize decide (a=76)=x at*;generalize decide (b=59)=y at*;clear FH hO h3
  cases x
  ·go_enter func64,ntmps64
   go_wp2_with fail
   go_ret;exact⟨vy (by rw[HO.out];rfl),rfl⟩
  cases y
  ·go_enter func64,ntmps64
   go_wp2_with fail
   go_ret;exact⟨vy (by rw[HO.out];rfl),rfl⟩
  go_enter func64,ntmps64
  go_wp2_with fail
  refine(HC.out w).mono ?_;rintro e w1 ⟨rfl,rfl⟩
  go_wp2_with fail
  go_ret;exact⟨vy (by rw[HO.out];rfl),rfl⟩
 have n3:decide ((3:Int)<=s.length)=false:=by simp;omega
 have HO:=Z' (show objR s=false by unfold objR;rw[decide_eq_false h3];rfl);generalize objR s=R at*;clear h3;go_enter func64,ntmps64
 go_wp2_with fail
 go_ret;exact⟨vy HO.out.symm,rfl⟩
theorem qL(w:World)(s:List UInt8)(hl:s.length<=65536):Calls prog 28 #[.string ⟨s.toArray⟩] w fun e w'=>e= .returned (.bool (typeB s))/\w'=w:=by
 rw[<-mf];obtain⟨D,hD⟩:=Z8 (yr s);have Pg:D<=s.length:=by rw[hD];exact qj s
 have QQ:=Z' (fun(i:Nat) (h:i<D) (h2:i<s.length)=>show s[i]=91 by
  have:=fp s i (by omega);rw[List.getElem?_eq_getElem h2]at this;exact Option.some.inj this)
 have Wg:=Z' (fun(h2:D<s.length)=>show ¬s[D]=91 from fun e=>by
  have:=mN s;subst hD;rw[List.getElem?_eq_getElem h2,e]at this;exact this rfl)
 obtain⟨B,hB⟩:=Z8 (s.drop D)
 have hR:rH s=if 8<D then false else if 0<D/\B=[66]then true else decide (B=[73])||((decide (D=0)&&decide (B=[74]))||objR B):=by rw[hB,hD];rfl
 have HO:=Z' (fun w=>D7m w B (by rw[hB,List.length_drop];omega));have SK:=fun w'=>ru w' s D Pg (by omega)
 rw[<-hB]at SK;have Ab:=Z' SK;have zd:(B==[66])=decide (B=[66]):=by rw[Bool.eq_iff_iff,beq_iff_eq,decide_eq_true_iff]
 have Au:(B==[73])=decide (B=[73]):=by rw[Bool.eq_iff_iff,beq_iff_eq,decide_eq_true_iff]
 have Bh:(B==[74])=decide (B=[74]):=by rw[Bool.eq_iff_iff,beq_iff_eq,decide_eq_true_iff]
 have TC:=Z' (fun w' i h=>nN w' s i h);have HR:=Z' hR
 have Cj:∀(LT Rw NT o:Bool),LT=decide (B=[66])->Rw=decide (B=[73])->NT=decide (B=[74])->o=objR B->rH s=if 8<D then false else if 0<D/\LT=true then true else Rw||((decide (D=0)&&NT)||o):=by
  rintro _ _ _ _ rfl rfl rfl rfl;rw[HR.out];simp
 have U5:=Z' Cj;obtain⟨LT,TE⟩:∃p,p=decide (B=[66]):=⟨_,rfl⟩;obtain⟨Rw,XK⟩:∃p,p=decide (B=[73]):=⟨_,rfl⟩;obtain⟨NT,Ye⟩:∃p,p=decide (B=[74]):=⟨_,rfl⟩;obtain⟨o,ho⟩:∃p,p=objR B:=⟨_,rfl⟩;have VE:=Z' (U5.out LT Rw NT o TE XK Ye ho);rw[<-TE]at zd;rw[<-XK]at Au;rw[<-Ye]at Bh;rw[<-ho]at HO;generalize rH s=R at*;clear TE XK Ye ho hR Cj U5 HR SK hB hD;go_enter func28,ntmps28
 go_wp2_with fail
 go_loopg [3] D (fun gn dv wr=>∃k:Nat,k<=D/\gn=D-k/\dv= .int .i64 k/\wr=w)
 case atStart=>exact⟨0,by omega,by omega,by go_num,rfl⟩
 obtain⟨k,hk,rfl,rfl,rfl⟩:=hrel;by_cases ZX:k<D
 ·have k1:(k:Int)<s.length:=by omega
  have Rh:=fun w'=>TC.out w' k (by omega)
  rw[QQ.out k ZX (by omega)]at Rh;have hix2:=fun w'=>show(Instr.index 9 (.string ⟨s.toArray⟩) (.int .i64 (k:Nat))).run prog w'= .ok (.int .u8 91) w' from Rh w'
  clear Rh
  go_wp2_with fail
  go_roundg (D-(k+1))
  case measure=>omega
  exact⟨k+1,by omega,rfl,by go_num,rfl⟩
 have y9:k=D:=by omega
 subst y9;have SK:=Ab.out;by_cases hend:k<s.length
 ·have k1:(k:Int)<s.length:=by omega
  have Rh:=fun w'=>TC.out w' k hend
  have ZF:=Wg.out hend;generalize s[k]=c at*
  have Dx:((c.toNat:Int)==91)=false:=by
   rw[beq_eq_false_iff_ne];intro h;exact ZF (UInt8.toNat_inj.1 (by rw[show(91:UInt8).toNat=91 from rfl];omega))
  clear ZF ZX;by_cases h8:8<k
  ·have d8:(8:Int)<k:=by omega
   have Xv:R=false:=by rw[VE.out,if_pos h8]
   subst Xv;clear h8
   go_wp2_with fail
   go_ret;exact⟨rfl,rfl⟩
  have d8:¬(8:Int)<k:=by omega
  by_cases h0:0<k
  ·have d0:(0:Int)<k:=by omega
   have dz:((k:Int)==0)=false:=by rw[beq_eq_false_iff_ne];omega
   cases LT
   ·have Xv:R=(Rw||o):=by rw[VE.out,if_neg h8,if_neg (fun h=>by cases h.2),decide_eq_false (by omega),Bool.false_and,Bool.false_or]
    cases Rw
    ·have XW:R=o:=Xv;subst XW;clear h8 h0 Xv
     go_wp2_with fail
     refine(HO.out wr).mono ?_;rintro e w1 ⟨rfl,rfl⟩
     go_wp2_with fail
     go_ret;exact⟨rfl,rfl⟩
    have XW:R=true:=Xv;subst XW;clear h8 h0 Xv
    go_wp2_with fail
    go_ret;exact⟨rfl,rfl⟩
   have Xv:R=true:=by rw[VE.out,if_neg h8,if_pos ⟨h0,rfl⟩]
   subst Xv;clear h8 h0
   go_wp2_with fail
   go_ret;exact⟨rfl,rfl⟩
  have d0:¬(0:Int)<k:=by omega
  have dz:((k:Int)==0)=true:=by rw[beq_iff_eq];omega
  have Xv:R=(Rw||(NT||o)):=by rw[VE.out,if_neg h8,if_neg (fun h=>h0 h.1),decide_eq_true (by omega),Bool.true_and]
  cases Rw
  ·cases NT
   ·have XW:R=o:=Xv;subst XW;clear h8 h0 Xv
    go_wp2_with fail
    refine(HO.out wr).mono ?_;rintro e w1 ⟨rfl,rfl⟩
    go_wp2_with fail
    go_ret;exact⟨rfl,rfl⟩
   have XW:R=true:=Xv;subst XW;clear h8 h0 Xv
   go_wp2_with fail
   go_ret;exact⟨rfl,rfl⟩
  have XW:R=true:=Xv;subst XW;clear h8 h0 Xv
  go_wp2_with fail
  go_ret;exact⟨rfl,rfl⟩
 have k1:¬(k:Int)<s.length:=by omega
 clear ZX;by_cases h8:8<k
 ·have d8:(8:Int)<k:=by omega
  have Xv:R=false:=by rw[VE.out,if_pos h8]
  subst Xv;clear h8
  go_wp2_with fail
  go_ret;exact⟨rfl,rfl⟩
 have d8:¬(8:Int)<k:=by omega
 by_cases h0:0<k
 ·have d0:(0:Int)<k:=by omega
  have dz:((k:Int)==0)=false:=by rw[beq_eq_false_iff_ne];omega
  cases LT
  ·have Xv:R=(Rw||o):=by rw[VE.out,if_neg h8,if_neg (fun h=>by cases h.2),decide_eq_false (by omega),Bool.false_and,Bool.false_or]
   cases Rw
   ·have XW:R=o:=Xv;subst XW;clear h8 h0 Xv
    go_wp2_with fail
    refine(HO.out wr).mono ?_;rintro e w1 ⟨rfl,rfl⟩
    go_wp2_with fail
    go_ret;exact⟨rfl,rfl⟩
   have XW:R=true:=Xv;subst XW;clear h8 h0 Xv
   go_wp2_with fail
   go_ret;exact⟨rfl,rfl⟩
  have Xv:R=true:=by rw[VE.out,if_neg h8,if_pos ⟨h0,rfl⟩]
  subst Xv;clear h8 h0
  go_wp2_with fail
  go_ret;exact⟨rfl,rfl⟩
 have d0:¬(0:Int)<k:=by omega
 have dz:((k:Int)==0)=true:=by rw[beq_iff_eq];omega
 have Xv:R=(Rw||(NT||o)):=by rw[VE.out,if_neg h8,if_neg (fun h=>h0 h.1),decide_eq_true (by omega),Bool.true_and]
 cases Rw
 ·cases NT
  ·have XW:R=o:=Xv;subst XW;clear h8 h0 Xv
   go_wp2_with fail
   refine(HO.out wr).mono ?_;rintro e w1 ⟨rfl,rfl⟩
   go_wp2_with fail
   go_ret;exact⟨rfl,rfl⟩
  have XW:R=true:=Xv;subst XW;clear h8 h0 Xv
  go_wp2_with fail
  go_ret;exact⟨rfl,rfl⟩
 have XW:R=true:=Xv;subst XW;clear h8 h0 Xv
 go_wp2_with fail
 go_ret;exact⟨rfl,rfl⟩
theorem ac(w:World)(s:List UInt8)(hl:s.length<=65536):Calls prog 153 #[.string ⟨s.toArray⟩] w fun e w'=>e= .returned (.string ⟨(s.take (xH s)).toArray⟩)/\w'=w:=by
 rw[<-D7p];obtain⟨T,hT⟩:=Z8 (sS s.length 1 s);have HT:=Z' hT;rw[<-hT];obtain⟨N,hN⟩:=Z8 (s.length);have hsz:(⟨s.toArray⟩:ByteArray).size=N:=by rw[hN];exact uw s
 have HN:=Z' hN;have Ay:N<=65536:=by omega
 clear hT hN;go_enter func153,ntmps153
 go_wp2_with fail
 go_loopg [3] (N+1) (fun gn dv wr=>∃k:Nat,k<=N/\gn=N+1-k/\dv= .int .i64 ((k:Int)+1)/\Hid (sS (N-k) (k+1) s=T)/\wr=w)
 case atStart=>exact⟨0,by omega,by omega,by go_num,Z' (by rw[HT.out,HN.out];rfl),rfl⟩
 obtain⟨k,hk,rfl,rfl,HF,rfl⟩:=hrel;by_cases ZX:k<N
 ·have k1:(k:Int)+1<=N:=by omega
  have PR:=fun w'=>show(Instr.slice 9 (.string ⟨s.toArray⟩) none (some (.int .i64 ((k:Int)+1))) none).run prog w'= .ok (.string ⟨(s.take (k+1)).toArray⟩) w' from gf w' s (k+1) (by rw[<-HN.out];omega) (by omega)
  have K9:=Z' (fun w=>qL w (s.take (k+1)) (by rw[List.length_take];omega));rw[<-mf]at K9;have Y6:=HF.out;rw[show N-k=(N-(k+1))+1 by omega,sS]at Y6
  cases hy:rH (s.take (k+1))
  ·rw[hy]at K9 Y6;have Q1:=Z9 (sS (N-(k+1)) (k+1+1) s=T) Y6;clear Y6 hy ZX
   go_wp2_with fail
   refine(K9.out wr).mono ?_;rintro e w1 ⟨rfl,rfl⟩
   go_wp2_with fail
   go_roundg (N+1-(k+1))
   case measure=>omega
   exact⟨k+1,by omega,rfl,by go_num,Q1,rfl⟩
  rw[hy]at K9 Y6;have hT:k+1=T:=Y6;subst hT;clear Y6 hy ZX
  go_wp2_with fail
  refine(K9.out wr).mono ?_;rintro e w1 ⟨rfl,rfl⟩
  go_wp2_with fail
  go_ret;exact⟨rfl,rfl⟩
 have k1:¬(k:Int)+1<=N:=by omega
 have hT:T=0:=by rw[<-HF.out,show N-k=0 by omega];rfl
 subst hT;clear ZX
 go_wp2_with fail
 go_ret;exact⟨rfl,rfl⟩
theorem bT(w:World)(s:List UInt8)(hl:s.length<=65536):Calls prog 116 #[.string ⟨s.toArray⟩] w (fq (xY s) w):=by
 have Zp:=Z' (Below.refl w.heap.size w)
 cases s with
 |nil=>
  have hT:xY []=false:=rfl;rw[hT];clear hT;go_enter func116,ntmps116
  go_wp2_with fail
  go_ret3;exact⟨⟨_,_,rfl⟩,Zp.out⟩
 |cons c0 r=>
 have Eh:(({data:=(c0::r).toArray}:ByteArray)[0]'(by rw[uw];simp)).toNat=c0.toNat:=rfl;by_cases h40:c0=40
 ·have E4:((c0.toNat:Int)==40)=true:=by rw[h40];rfl
  have hM:xY (c0::r)=rF (uV 16 r):=by rw[h40];exact i9 r
  have Sy:r.length<=65536:=by simp at hl;omega
  have D4:=fun w'=>show(Instr.slice 9 (.string ⟨(c0::r).toArray⟩) (some (.int .i64 1)) none none).run prog w'= .ok (.string ⟨r.toArray⟩) w' from ru w' (c0::r) 1 (by simp) (by simp;omega)
  rw[hM];obtain⟨A0,hA0⟩:=Z8 (uV 16 r);have L8:=Z' hA0;rw[<-hA0];obtain⟨T,hT⟩:=Z8 (rF A0);have Y8:=Z' hT;rw[<-hT];clear h40 hl hA0 hT hM;go_enter func116,ntmps116
  go_wp2_with fail
  simp only[show((c0.toNat:Int) !=40)=false by rw[bne,E4];rfl];clear D4 Eh E4
  go_loopg [6,5] 17 (fun gn sv av wr=>∃(k:Nat) (r:List UInt8) (L:List (List UInt8)) (a:Option Addr) (c:Nat),k<=16/\gn=17-k/\sv= .string ⟨r.toArray⟩/\av= .slice a k c/\r.length<=65536/\Hid (uV (16-k) r=A0)/\Hid (wr.ownsRow w.heap.size 9 1 (.slice a k c) k (L.map xX))/\Hid (Below w.heap.size w wr))
  case atStart=>exact⟨0,r,[],none,0,by omega,by omega,rfl,rfl,Sy,Z' L8.out.symm,Z' (World.ownsRow_nil _ _ _ _),Zp⟩
  obtain⟨k,r,L,a,c,hk,rfl,rfl,rfl,Sy,HA,HO,HB⟩:=hrel
  cases r with
  |nil=>
   have hT:T=false:=by rw[Y8.out,<-HA.out,pB _ _ (.inl rfl)];rfl
   subst hT
   go_wp2_with fail
   go_ret3;exact⟨⟨_,_,rfl⟩,HB.out⟩
  |cons d t=>
  have Rh:(({data:=(d::t).toArray}:ByteArray)[0]'(by rw[uw];simp)).toNat=d.toNat:=rfl;by_cases h41:d=41
  ·have Ei:((d.toNat:Int)==41)=true:=by rw[h41];rfl
   have hA:A0=some (d::t):=by rw[<-HA.out,pB _ _ (.inr (by rw[h41];rfl))]
   have SK:=fun w'=>show(Instr.slice 9 (.string ⟨(d::t).toArray⟩) (some (.int .i64 1)) none none).run prog w'= .ok (.string ⟨t.toArray⟩) w' from ru w' (d::t) 1 (by simp) (by simp at Sy⊢;omega)
   have Rp:=Z' (show T=(decide (t=[86])||typeB t) by rw[Y8.out,hA,h41];simp[rF]);have Me:t.length<=65536:=by simp at Sy;omega
   have MM:=Z' (fun w=>qL w t Me);obtain⟨y,hy⟩:=Z8 (typeB t);rw[<-hy]at Rp MM;clear hA h41 Sy hy
   cases y
   ·by_cases h86:t=[86]
    ·have hT:T=true:=by rw[Rp.out,decide_eq_true h86,Bool.true_or]
     subst hT;have he:(t==[86])=true:=by simpa using h86
     clear h86
     go_wp2_with fail
     refine(MM.out wr).mono ?_;rintro e w2 ⟨rfl,rfl⟩
     go_upto_region 13 with fail
     go_quiet (fail)
     go_wp2_with fail
     go_ret3;exact⟨⟨_,_,rfl⟩,HB.out.trans ((sw _ _).mono HB.out.size)⟩
    have hT:T=false:=by rw[Rp.out,decide_eq_false h86,Bool.false_or]
    subst hT;have he:(t==[86])=false:=by simpa using h86
    clear h86
    go_wp2_with fail
    refine(MM.out wr).mono ?_;rintro e w2 ⟨rfl,rfl⟩
    go_wp2_with fail
    go_ret3;exact⟨⟨_,_,rfl⟩,HB.out⟩
   have hT:T=true:=by rw[Rp.out,Bool.or_true]
   subst hT
   go_wp2_with fail
   refine(MM.out wr).mono ?_;rintro e w2 ⟨rfl,rfl⟩
   go_upto_region 13 with fail
   go_quiet (fail)
   go_wp2_with fail
   go_ret3;exact⟨⟨_,_,rfl⟩,HB.out.trans ((sw _ _).mono HB.out.size)⟩
  have Ei:((d.toNat:Int)==41)=false:=by
   rw[beq_eq_false_iff_ne];intro h;exact h41 (UInt8.toNat_inj.1 (by rw[show(41:UInt8).toNat=41 from rfl];omega))
  obtain⟨m,hm⟩:=Z8 (xH (d::t));have UH:=qi (d::t);have Sb:=Z' (ac wr (d::t) Sy);rw[<-hm]at Sb UH;by_cases h0:m=0
  ·have hT:T=false:=by
    rw[Y8.out,<-HA.out];by_cases Y2:k=16
    ·subst Y2;rw[pC d t h41];rfl
    rw[show 16-k=(15-k)+1 by omega,pw _ d t h41,<-hm,if_pos h0];rfl
   subst hT;rw[h0,List.take_zero]at Sb;clear HA hm UH h0 h41
   go_wp2_with fail
   refine Sb.out.mono ?_;rintro e w2 ⟨rfl,rfl⟩
   go_wp2_with fail
   go_ret3;exact⟨⟨_,_,rfl⟩,HB.out⟩
  obtain⟨m1,Ru⟩:∃m1,m=m1+1:=⟨m-1,by omega⟩;have HU:=Z' (show(d::t).take m=d::t.take m1 by rw[Ru,List.take_succ_cons]);rw[HU.out]at Sb;have Lf:=Z' (show(t.take m1).length=m1 by rw[List.length_take];simp at UH;omega);by_cases Y2:k=16
  ·have hT:T=false:=by
    rw[Y8.out,<-HA.out];subst Y2;rw[pC d t h41];rfl
   subst hT;have EB:((k:Int)==16)=true:=by rw[Y2];rfl
   generalize t.take m1=u at*;clear HA hm UH h0 h41 Y2 hk
   go_wp2_with fail
   refine Sb.out.mono ?_;rintro e w2 ⟨rfl,rfl⟩
   go_wp2_with fail
   go_ret3;exact⟨⟨_,_,rfl⟩,HB.out⟩
  have EB:((k:Int)==16)=false:=by rw[beq_eq_false_iff_ne];omega
  have WP:=Z' (show uV (16-(k+1)) ((d::t).drop m)=A0 by
   rw[<-HA.out,show 16-k=(16-(k+1))+1 by omega,pw _ d t h41,<-hm,if_neg h0])
  have SK:=fun w'=>show(Instr.slice 9 (.string ⟨(d::t).toArray⟩) (some (.int .i64 ((m1:Int)+1))) none none).run prog w'= .ok (.string ⟨((d::t).drop m).toArray⟩) w' from by
   have:=ru w' (d::t) m UH (by omega);subst Ru;exact this
  have Pb:=Z' (show((d::t).drop m).length<=65536 by rw[List.length_drop];omega);have Fr:=Lf.out;generalize(d::t).drop m=r2 at*;generalize t.take m1=u at*;subst Fr;have Bq:k<=15:=by omega
  have FG:(0:Int)<=(u.length:Int)+1:=by omega
  clear hm UH h0 h41 Y2 hk Ru HA HU Lf
  go_wp2_with fail
  refine Sb.out.mono ?_;rintro e w2 ⟨rfl,rfl⟩
  go_wp2_with (at_builtin;refine um uN rfl _ _ rfl w.heap.size _ k _ rfl HO.out _ 1 _ _ rfl (by simp) rfl rfl (by omega) (by unfold maxLen;omega) HB.out.size ?_;intro v3 w3 Xg Qa Zn;obtain⟨a3,c3,rfl,-,-⟩:=Sl.ofOwn (enc:=xX) (xs:=L++[d::u]) (by rw[List.map_append];exact Xg);have VX:=Z' (show w3.ownsRow w.heap.size 9 1 (.slice a3 (k+1) c3) (k+1) ((L++[d::u]).map xX) by rw[List.map_append];exact Xg);have ZG:=Z' (HB.out.trans Zn);clear Xg Qa Zn)
  go_roundg (17-(k+1))
  case measure=>omega
  exact⟨k+1,r2,L++[d::u],_,_,by omega,rfl,rfl,rfl,Pb.out,WP,VX,ZG⟩
 have hT:xY (c0::r)=false:=by simp[xY,h40]
 rw[hT]
 have E4:((c0.toNat:Int)==40)=false:=by
  rw[beq_eq_false_iff_ne];intro h;exact h40 (UInt8.toNat_inj.1 (by rw[show(40:UInt8).toNat=40 from rfl];omega))
 clear hT h40;go_enter func116,ntmps116
 go_wp2_with fail
 go_ret3;exact⟨⟨_,_,rfl⟩,Zp.out⟩
theorem jU(w:World)(s:List UInt8)(hl:s.length<=65536):Calls prog 66 #[.string ⟨s.toArray⟩] w fun e w'=>e= .returned (.bool (xY s))/\Below w.heap.size w w':=by
 have HM:=Z' (bT w s hl);generalize xY s=T at*;clear hl
 cases T
 ·go_enter func66,ntmps66
  go_wp2_with fail
  refine HM.out.mono ?_;rintro e w1 ⟨⟨v1,v2,rfl⟩,hb⟩;simp only[Bool.false_eq_true,if_false]
  go_wp2_with fail
  go_ret;exact⟨rfl,hb⟩
 go_enter func66,ntmps66
 go_wp2_with fail
 refine HM.out.mono ?_;rintro e w1 ⟨⟨v1,v2,rfl⟩,hb⟩;simp only[if_true]
 go_wp2_with fail
 go_ret;exact⟨rfl,hb⟩
theorem jK(w:World)(s:List UInt8)(hl:s.length<=65536):Calls prog 118 #[.string ⟨s.toArray⟩] w fun e w'=>e= .returned (.bool (x6 s))/\w'=w:=by
 cases s with
 |nil=>
  have hT:x6 []=false:=rfl;rw[hT];clear hT;go_enter func118,ntmps118
  go_wp2_with fail
  go_ret;exact⟨rfl,rfl⟩
 |cons c r=>
 have Rh:(({data:=(c::r).toArray}:ByteArray)[0]'(by rw[uw];simp)).toNat=c.toNat:=rfl;have HT:=Z' (fun w=>qL w (c::r) hl);by_cases h91:c=91
 ·have Dx:((c.toNat:Int)==91)=true:=by rw[h91];rfl
  have HR:=Z' (show x6 (c::r)=typeB (c::r) by simp[x6,h91]);generalize x6 (c::r)=R at*;generalize typeB (c::r)=T at*;clear h91;go_enter func118,ntmps118
  go_wp2_with fail
  refine(HT.out w).mono ?_;rintro e w1 ⟨rfl,rfl⟩
  go_wp2_with fail
  go_ret;exact⟨vy HR.out.symm,rfl⟩
 have Dx:((c.toNat:Int)==91)=false:=by
  rw[beq_eq_false_iff_ne];intro h;exact h91 (UInt8.toNat_inj.1 (by rw[show(91:UInt8).toNat=91 from rfl];omega))
 have HR:=Z' (show x6 (c::r)=false by simp[x6,h91]);generalize x6 (c::r)=R at*;clear h91;go_enter func118,ntmps118
 go_wp2_with fail
 go_ret;exact⟨vy HR.out.symm,rfl⟩
theorem pG(w:World)(s:List UInt8)(hl:s.length<=65536):Calls prog 18 #[.string ⟨s.toArray⟩] w fun e w'=>e= .returned (.bool (yk s))/\w'=w:=by
 obtain⟨R,hR⟩:=Z8 (yk s);have HR:=Z' hR;rw[<-hR];have HC:=Z' (fun w=>tu w s (by omega));have TC:=Z' (fun w' i h=>nN w' s i h);obtain⟨N,hN⟩:=Z8 (s.length);have hsz:(⟨s.toArray⟩:ByteArray).size=N:=by rw[hN];exact uw s
 have HN:=Z' hN;have Ay:N<=65536:=by omega
 clear hR hN;go_enter func18,ntmps18
 go_wp2_with fail
 go_loopg [3] N (fun gn dv wr=>∃k:Nat,k<=N/\gn=N-k/\dv= .int .i64 k/\Hid (∀i (h:i<s.length),i<k->¬s[i]=47)/\wr=w)
 case atStart=>exact⟨0,by omega,by omega,by go_num,Z' (fun i h h0=>by omega),rfl⟩
 obtain⟨k,hk,rfl,rfl,HG,rfl⟩:=hrel;by_cases ZX:k<N
 ·have k1:(k:Int)<N:=by omega
  have SV:k<s.length:=by rw[<-HN.out];exact ZX
  have Rh:=fun w'=>TC.out w' k SV
  have HX:=Z9 (¬s[k]=47->∀i (h:i<s.length),i<k+1->¬s[i]=47) (fun h i hi Rv=>by
   rcases Nat.lt_or_ge i k with h1|h1
   ·exact HG.out i hi h1
   obtain rfl:i=k:=by omega
   exact h)
  have HY:=Z9 (s[k]=47->R=false) (fun h=>by
   rw[HR.out]
   have:s.contains 47=true:=by
    rw[List.contains_iff_mem,<-h];exact List.getElem_mem SV
   unfold yk;rw[this];rfl)
  generalize s[k]=c at*;clear SV;by_cases h47:c=47
  ·have Xv:=HY.out h47;subst Xv;have zN:((c.toNat:Int)==47)=true:=by rw[h47];rfl
   clear h47 ZX
   go_wp2_with fail
   go_ret;exact⟨rfl,rfl⟩
  have WG:=Z' (HX.out h47)
  have zN:((c.toNat:Int)==47)=false:=by
   rw[beq_eq_false_iff_ne];intro h;exact h47 (UInt8.toNat_inj.1 (by rw[show(47:UInt8).toNat=47 from rfl];omega))
  clear h47 ZX
  go_wp2_with fail
  go_roundg (N-(k+1))
  case measure=>omega
  exact⟨k+1,by omega,rfl,by go_num,WG,rfl⟩
 have k1:¬(k:Int)<N:=by omega
 have Xv:R=classB s:=by
  rw[HR.out]
  have:s.contains 47=false:=by
   rw[<-Bool.not_eq_true,List.contains_iff_mem];intro hm;obtain⟨i,hi,e⟩:=List.getElem_of_mem hm;exact HG.out i hi (by have:=HN.out;omega) e
  unfold yk;rw[this];rfl
 subst Xv;clear ZX
 go_wp2_with fail
 refine(HC.out wr).mono ?_;rintro e w1 ⟨rfl,rfl⟩
 go_wp2_with fail
 go_ret;exact⟨rfl,rfl⟩
end
end Go.Proofs.YtclpkipaehpkdaaGreatDoor
