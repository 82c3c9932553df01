/- asm -/
import Derived.Test.YtclpkipaehpkdaaGreatDoorQ04AsmMade
import Derived.Test.YtclpkipaehpkdaaGreatDoorQ02AsmMade
import Derived.Lib.DecodeN
import Derived.OwnWalk
set_option linter.unusedVariables false
set_option linter.unusedSimpArgs false
set_option maxRecDepth 100000
set_option maxHeartbeats 64000000
namespace Go.Proofs.YtclpkipaehpkdaaGreatDoor
section
open Go.ChangeShapes Go.WideShapes Go.ChangeAt Go.RowKit
theorem A4i{a b:Bool}(h:a=b):Ending.returned (.bool a)=Ending.returned (.bool b):=by rw[h]
def B3a(n:Nat):Bool:=(decide (97<=n)&&decide (n<=122))||(decide (65<=n)&&decide (n<=90))||(decide (48<=n)&&decide (n<=57))||decide (n=95)||decide (n=36)
theorem C2x(args:Array Value)(w:World):(callFunc 134 args).run Tryz.prog w= .ok (.enter 134 args) w:=by kernel_rfl
theorem B9r(args:Array Value)(w:World):(callFunc 85 args).run Tryz.prog w= .ok (.enter 85 args) w:=by kernel_rfl
theorem C8x(w:World)(n:Nat)(h:n<256):Calls Tryz.prog 134 #[.int .u8 (n:Int)] w fun e w'=>e= .returned (.bool (!B3a n))/\w=w':=by
 go_enter Tryz.func134,Tryz.ntmps134
 go_wp2
 all_goals (go_ret;refine⟨A4i ?_,rfl⟩;rw[Bool.eq_iff_iff];unfold B3a;simp only[Bool.or_eq_true,Bool.and_eq_true,decide_eq_true_eq,beq_iff_eq,Bool.not_eq_true',Bool.not_eq_false',beq_eq_false_iff_ne,ne_eq,Bool.or_eq_false_iff,Bool.and_eq_false_imp,decide_eq_false_iff_not,Bool.false_eq_true,false_iff,true_iff,Bool.not_eq_true,reduceCtorEq]at*;omega)
def B0k(s:List UInt8):Bool:= !s.isEmpty&&s.all fun c=>B3a c.toNat
theorem D3i(w:World)(s:List UInt8)(hl:s.length<=65536):Calls Tryz.prog 86 #[.string ⟨s.toArray⟩] w fun e w'=>e= .returned (.bool (B0k s))/\Below w.heap.size w w':=by
 obtain⟨r,hr⟩:=exz (B0k s);rw[<-hr];have hall:(s.all fun c=>B3a c.toNat)= !(s.any fun c=> !B3a c.toNat):=by rw[List.all_eq_not_any_not]
 unfold B0k at hr;rw[hall]at hr;have HR:=hzz hr;clear hr hall;have HB0:=hzz (Below.refl w.heap.size w)
 cases he:s.isEmpty
 ·obtain⟨c,w1,hcv,hs1,hc1,hb1,hz1⟩:=B5h w s;have HB1:=hzz hb1
  have HCF:=hzz (B2u w1 _ s.length c s 134 (fun c=> !B3a c.toNat) hs1 hl C2x (fun w c=>C8x w c.toNat c.toNat_lt));rw[he]at HR
  generalize(s.any fun c=> !B3a c.toNat)=ok at*;clear hs1 hb1 hl hc1 hz1;go_enter Tryz.func86,Tryz.ntmps86
  go_wp2_with fail
  refine HCF.out.mono ?_;rintro e w' ⟨rfl,rfl⟩
  go_wp2_with fail
  go_ret
  exact⟨A4i (by rw[HR.out];cases ok<;>rfl),HB1.out⟩
 rw[he]at HR;go_enter Tryz.func86,Tryz.ntmps86
 go_wp2_with fail
 go_ret;exact⟨A4i (by rw[HR.out];rfl),HB0.out⟩
theorem C5j(w:World)(s:List UInt8)(hl:s.length<=65536):Calls Tryz.prog 85 #[.string ⟨s.toArray⟩] w fun e w'=>e= .returned (.bool (!B0k s))/\Below w.heap.size w w':=by
 have HW:=hzz (D3i w s hl);generalize B0k s=ok at*;go_enter Tryz.func85,Tryz.ntmps85
 go_wp2_with fail
 refine HW.out.mono ?_;rintro e w' ⟨rfl,hb⟩;have HB:=hzz hb;clear hb
 go_wp2_with fail
 go_ret;exact⟨rfl,HB.out⟩
theorem B4w(w:World)(g cap f:Nat)(xs:List (List UInt8))(p:List UInt8->Bool)(hc:∀(j:Nat) x,xs[j]? =some x->w.cell? ⟨g,j,none⟩=some (.string ⟨x.toArray⟩))(hn:xs.length<=65536)
  (he:∀(args:Array Value) (w:World),(callFunc f args).run Tryz.prog w= .ok (.enter f args) w) (hf:∀(w:World) x,x∈xs->Calls Tryz.prog f #[.string ⟨x.toArray⟩] w fun e w'=>e= .returned (.bool (p x))/\Below w.heap.size w w'):
  Calls Tryz.prog 132 #[.slice (some ⟨g,0,none⟩) xs.length cap,.func (.func f) #[] #[]] w fun e w'=>∃r:Int,e= .returned (.int .i64 r)/\decide (0<=r)=xs.any p/\Below w.heap.size w w':=by
 obtain⟨n,hN⟩:=exz (xs.length);rw[<-hN]at hn⊢;have HN:=hzz hN;have HC:=hzz hc;have HF:=hzz hf;clear hc hf hN;go_enter Tryz.func132,Tryz.ntmps132
 go_wp2_with fail
 go_loopg [8] n (fun gn i wr=>∃j:Nat,j<=n/\gn=n-j/\i= .int .i64 j/\Hid (∀k (h:k<xs.length),k<j->p xs[k]=false)/\Hid (Below w.heap.size w wr))
 case atStart=>exact⟨0,by omega,by omega,by go_num,hzz (fun k h h0=>by omega),hzz brz⟩
 obtain⟨j,hj,rfl,rfl,HG,HB⟩:=hrel;by_cases hlt:j<n
 ·have hjs:j<xs.length:=by rw[<-HN.out];exact hlt
  have q0:wr.cell? ⟨g,j,none⟩=some (.string ⟨(xs[j]).toArray⟩):=B5s (HC.out j _ (List.getElem?_eq_getElem hjs)) HB.out
  have HY:=hzz (show p xs[j]=true->xs.any p=true from fun h=>List.any_eq_true.2 ⟨xs[j],List.getElem_mem hjs,h⟩)
  have HX:=hzz (show p xs[j]=false->∀k (h:k<xs.length),k<j+1->p xs[k]=false from fun h k hk hk2=>by
   rcases Nat.lt_or_ge k j with h1|h1
   ·exact HG.out k hk h1
   obtain rfl:k=j:=by omega
   exact h)
  have HCX:=hzz (HF.out wr _ (List.getElem_mem hjs));have j1:(j:Int)<n:=by omega
  generalize xs[j]=x at*;generalize p x=ok at*;clear hjs
  go_wp2_with fail
  refine HCX.out.mono ?_;rintro e w' ⟨rfl,hb⟩;have HB2:=btz HB hb;clear hb
  cases ok
  ·have HM:=hzz (HX.out rfl)
   go_wp2_with fail
   go_roundg (n-(j+1))
   case measure=>omega
   exact⟨j+1,by omega,rfl,by go_num,HM,HB2⟩
  have HR:=hzz (HY.out rfl)
  go_wp2_with fail
  go_ret;exact⟨_,rfl,by rw[HR.out];simp,HB2.out⟩
 obtain rfl:j=n:=by omega
 have HR:=hzz (show xs.any p=false from by
  rw[List.any_eq_false];intro c hc;obtain⟨k,hk,rfl⟩:=List.getElem_of_mem hc;rw[HG.out k hk (by rw[<-HN.out]at hk;exact hk)];decide)
 go_wp2_with fail
 go_ret;exact⟨_,rfl,by rw[HR.out];rfl,HB.out⟩
theorem B2k(w:World)(g cap f:Nat)(xs:List (List UInt8))(p:List UInt8->Bool)(hc:∀(j:Nat) x,xs[j]? =some x->w.cell? ⟨g,j,none⟩=some (.string ⟨x.toArray⟩))(hn:xs.length<=65536)
  (he:∀(args:Array Value) (w:World),(callFunc f args).run Tryz.prog w= .ok (.enter f args) w) (hf:∀(w:World) x,x∈xs->Calls Tryz.prog f #[.string ⟨x.toArray⟩] w fun e w'=>e= .returned (.bool (p x))/\Below w.heap.size w w'):
  Calls Tryz.prog 83 #[.slice (some ⟨g,0,none⟩) xs.length cap,.func (.func f) #[] #[]] w fun e w'=>e= .returned (.bool (xs.any p))/\Below w.heap.size w w':=by
 have HI:=hzz (B4w w g cap f xs p hc hn he hf);generalize xs.any p=ok at*;generalize xs.length=n at*;clear hc hf he;go_enter Tryz.func83,Tryz.ntmps83
 go_wp2_with fail
 refine HI.out.mono ?_;rintro e w' ⟨r,rfl,hr,hb⟩;have HB:=hzz hb;clear hb
 go_wp2_with fail
 go_ret;exact⟨rfl,HB.out⟩
def A1b(s:List UInt8):Bool:=decide (s.length<=64)&&(sp 47 s).all B0k
theorem B6b(c:UInt8):∀(s:List UInt8) x,x∈sp c s->x.length<=s.length
 |[],x,h=>by simp[sp]at h;subst h;simp
 |b::l,x,h=>by
  have ih:=B6b c l;unfold sp at h;split at h
  ·rcases List.mem_cons.1 h with rfl|h
   ·simp
   have:=ih x h;simp;omega
  split at h
  ·simp at h;subst h;simp
  next y ys e=>
  rw[e]at ih
  rcases List.mem_cons.1 h with rfl|h
  ·have:=ih y (by simp);simp;omega
  have:=ih x (by simp[h]);simp;omega
theorem D1b(c:UInt8)(s:List UInt8):(sp c s).length<=s.length+1:=by
 induction s with
 |nil=>simp[sp]
 |cons b l ih=>
  unfold sp;split
  ·simp;omega
  split
  ·simp
  next e=>rw[e]at ih;simp at ih⊢;omega
theorem A6w(w:World)(s:List UInt8)(hl:s.length<=4294967000)(hv:VW w):Calls Tryz.prog 42 #[.string ⟨s.toArray⟩] w fun e w'=>e= .returned (.bool (A1b s))/\Below w.heap.size w w':=by
 obtain⟨r,hr⟩:=exz (A1b s);rw[<-hr];unfold A1b at hr;have hall:(sp 47 s).all B0k= !((sp 47 s).any fun x=> !B0k x):=by rw[List.all_eq_not_any_not]
 rw[hall]at hr;have HR:=hzz hr;clear hr hall;have hsz:(⟨s.toArray⟩:ByteArray).size=s.length:=by simp[ByteArray.size]
 by_cases h64:s.length<=64
 ·have hl2:decide ((s.length:Int)<=64)=true:=by simp;omega
  have HS:=hzz (C9z w s 47 hl hv);have h1:=D1b 47 s;have hb1:Below w.heap.size w (w.alloc (.cells ((sp 47 s).map fun x=>Value.string ⟨x.toArray⟩).toArray 9)):=brz.alloc nlz _
  have HB1:=hzz hb1
  have HC:=hzz (fun W1 (h:W1=w.alloc (.cells ((sp 47 s).map fun x=>Value.string ⟨x.toArray⟩).toArray 9))=>B2k W1 w.heap.size (sp 47 s).length 85 (sp 47 s) (fun x=> !B0k x) (fun j x hx=>by
   subst h;rw[cell_of_row _ w.heap.size j _ _ _ (heap_alloc_last w _)];simp[hx]) (by omega) B9r (fun w x hx=>C5j w x (by have:=B6b 47 s x hx;omega)))
  rw[decide_eq_true h64]at HR;generalize((sp 47 s).any fun x=> !B0k x)=ok at*;generalize(sp 47 s)=xs at*;clear hl hv h64 hb1 h1;go_enter Tryz.func42,Tryz.ntmps42
  go_wp2_with fail
  refine HS.out.mono ?_;rintro e w1 ⟨rfl,hw1⟩;have HC2:=hzz (HC.out w1 hw1);rw[<-hw1]at HB1;clear hw1 HC
  go_wp2_with fail
  refine HC2.out.mono ?_;rintro e w2 ⟨rfl,hb2⟩;have HB2:=btz HB1 hb2;clear hb2
  go_wp2_with fail
  go_ret
  exact⟨A4i (by rw[HR.out];cases ok<;>rfl),HB2.out⟩
 have hl2:decide ((s.length:Int)<=64)=false:=by simp;omega
 have HB0:=hzz (Below.refl w.heap.size w);rw[decide_eq_false h64]at HR;clear hl hv h64;go_enter Tryz.func42,Tryz.ntmps42
 go_wp2_with fail
 go_ret;exact⟨A4i (by rw[HR.out];rfl),HB0.out⟩
def cls:Nat->List UInt8->Bool
 |l,[]=>decide (l≠47)
 |l,c::s=>(B3a c.toNat||(decide (c.toNat=47)&&decide (l≠47)))&&cls c.toNat s
theorem E0p(c:UInt8):c=47↔c.toNat=47:=⟨fun h=>by rw[h];rfl,fun h=>UInt8.toNat_inj.1 h⟩
theorem E0n(c:UInt8)(s:List UInt8):∃x xs,sp c s=x::xs:=by
 cases s with
 |nil=>exact⟨_,_,rfl⟩
 |cons b l=>
 unfold sp;split
 ·exact⟨_,_,rfl⟩
 split
 ·exact⟨_,_,rfl⟩
 exact⟨_,_,rfl⟩
theorem D4h:∀(s:List UInt8) (l:Nat) x xs,sp 47 s=x::xs->cls l s=((if l=47 then B0k x else x.all fun c=>B3a c.toNat)&&xs.all B0k)
 |[],l,x,xs,h=>by
  simp only[sp,List.cons.injEq]at h;obtain⟨rfl,rfl⟩:=h;unfold cls;by_cases hl:l=47<;>simp[hl,B0k]
 |c::s,l,x,xs,h=>by
  obtain⟨y,ys,e⟩:=E0n 47 s;have ih:=D4h s c.toNat y ys e;unfold sp at h;unfold cls;rw[ih];by_cases hc:c=47
  ·rw[if_pos hc]at h;obtain⟨rfl,rfl⟩:=List.cons.inj h;rw[e];have hc2:c.toNat=47:=(E0p c).1 hc;have hw:B3a c.toNat=false:=by rw[hc2];decide
   by_cases hl:l=47<;>simp[hl,hc2,B0k,show B3a 47=false from by decide]
  rw[if_neg hc,e]at h;obtain⟨rfl,rfl⟩:=List.cons.inj h;have hc2:¬c.toNat=47:=fun h=>hc ((E0p c).2 h)
  rw[if_neg hc2];by_cases hl:l=47<;>simp[hl,hc2,B0k,Bool.and_assoc]
theorem C8r(s:List UInt8):A1b s=(decide (s.length<=64)&&cls 47 s):=by
 obtain⟨y,ys,e⟩:=E0n 47 s;rw[D4h s 47 y ys e];unfold A1b;rw[e];simp
end
section
open Go.RowKit
def B5c:List UInt8->Nat
 |[]=>0
 |c::s=>if c=91 then B5c s+1 else 0
def D8r(d:Nat):List UInt8->Nat
 |[]=>0
 |c::t=>if 8<d then 0 else if c=73\/(c=74/\d=0)\/(c=66/\0<d)then d+1
  else if c=76 then(if(Lib.cut t [59]).2.2=true/\A1b (Lib.cut t [59]).1=true then d+(Lib.cut t [59]).1.length+2 else 0)else 0
theorem B9f(d:Nat)(c:UInt8)(t:List UInt8):D8r d (c::t)=if 8<d then 0 else if c=73\/(c=74/\d=0)\/(c=66/\0<d)then d+1
  else if c=76 then(if(Lib.cut t [59]).2.2=true/\A1b (Lib.cut t [59]).1=true then d+(Lib.cut t [59]).1.length+2 else 0)else 0:=rfl
def C3w(s:List UInt8):Nat:=D8r (B5c s) (s.drop (B5c s))
def typeB(s:List UInt8):Bool:= !s.isEmpty&&decide (C3w s=s.length)
def A2g(s:List UInt8):Bool:=decide (s.head? =some 91)&&typeB s
def A5e(s:List UInt8):Bool:= !s.contains 47&&A1b s
def B2d:Nat->List UInt8->Option (List UInt8)
 |n,s=>if s=[]\/s.head? =some 41 then some s else
  match n with
  |0=>none
  |n+1=>if C3w s=0 then none else B2d n (s.drop (C3w s))
def D3e(o:Option (List UInt8)):Bool:=match o with
 |none=>false
 |some []=>false
 |some (d::t)=>decide (d=41)&&(decide (t=[86])||typeB t)
def A3k(s:List UInt8):Bool:=
 match s with
 |[]=>false
 |c::r=>decide (c=40)&&D3e (B2d 16 r)
theorem C2i:∀s:List UInt8,B5c s<=s.length
 |[]=>Nat.le_refl _
 |c::s=>by
  unfold B5c;split
  ·have:=C2i s;simp;omega
  simp
theorem D0a(s:List UInt8):s.dropWhile (·==91)=s.drop (B5c s):=by
 induction s with
 |nil=>rfl
 |cons c s ih=>
  unfold B5c;by_cases h:c=91
  ·subst h;simpa using ih
  rw[if_neg h,List.dropWhile_cons_of_neg (by simpa using h)];rfl
theorem D3w{nm:List UInt8}(h:A1b nm=true):(59:UInt8)∉nm/\(91:UInt8)∉nm/\nm≠[]:=by
 rw[C8r]at h;simp only[Bool.and_eq_true,decide_eq_true_eq]at h;obtain⟨_,h⟩:=h
 have key:∀(s:List UInt8) (l:Nat),cls l s=true->∀c∈s,B3a c.toNat=true\/c.toNat=47:=by
  intro s
  induction s with
  |nil=>intro l _ c hc;cases hc
  |cons b s ih=>
   intro l hl c hc;simp only[cls,Bool.and_eq_true,Bool.or_eq_true,decide_eq_true_eq]at hl
   rcases List.mem_cons.1 hc with rfl|hc
   ·rcases hl.1 with h1|h1
    ·exact .inl h1
    exact .inr h1.1
   exact ih _ hl.2 c hc
 refine⟨fun hm=> ?_,fun hm=> ?_,fun e=> ?_⟩
 ·have:=key nm 47 h _ hm;revert this;decide
 ·have:=key nm 47 h _ hm;revert this;decide
 subst e;simp[cls]at h
theorem C3e{s:List UInt8}(h:(Lib.cut s [59]).2.2=true):s=(Lib.cut s [59]).1++59::(Lib.cut s [59]).2.1/\(59:UInt8)∉(Lib.cut s [59]).1:=by
 by_cases h1:Lib.index s [59]= -1
 ·rw[C4k 59 s h1]at h;cases h
 have hg:=Lib.index_ge s [59];obtain⟨i,hi⟩:∃i:Nat,Lib.index s [59]=i:=⟨(Lib.index s [59]).toNat,by omega⟩;rw[C8t 59 s i hi];clear h h1 hg
 induction s generalizing i with
 |nil=>rw[A6i]at hi;omega
 |cons c s ih=>
  rw[A7j]at hi;split at hi
  ·next hc=>
         have:i=0:=by omega
         subst this;subst hc;simp
  next hc=>
  have hg:=Lib.index_ge s [59];split at hi
  ·omega
  obtain⟨k,rfl⟩:∃k,i=k+1:=⟨i-1,by omega⟩;obtain⟨e1,e2⟩:=ih k (by omega);simp only[List.take_succ_cons,List.drop_succ_cons];refine⟨by simpa using e1,fun hm=> ?_⟩
  rcases List.mem_cons.1 hm with h2|h2
  ·exact hc h2.symm
  exact e2 h2
theorem D6g(d:Nat)(b:List UInt8):D8r d b<=d+b.length:=by
 cases b with
 |nil=>simp[D8r]
 |cons c t=>
 rw[B9f];by_cases h8:8<d
 ·rw[if_pos h8];omega
 rw[if_neg h8];by_cases h1:c=73\/(c=74/\d=0)\/(c=66/\0<d)
 ·rw[if_pos h1];simp
 rw[if_neg h1];by_cases h76:c=76
 ·rw[if_pos h76];by_cases h:(Lib.cut t [59]).2.2=true/\A1b (Lib.cut t [59]).1=true
  ·rw[if_pos h];have:=congrArg List.length (C3e h.1).1;simp only[List.length_append,List.length_cons]at this⊢;omega
  rw[if_neg h];omega
 rw[if_neg h76];omega
theorem C9s(s:List UInt8):C3w s<=s.length:=by
 unfold C3w;have h1:=D6g (B5c s) (s.drop (B5c s));have h2:=C2i s;rw[List.length_drop]at h1;omega
end
section
open Go.ChangeShapes Go.WideShapes Go.ChangeAt Go.RowKit
theorem A8j(s:List UInt8):(⟨s.toArray⟩:ByteArray).size=s.length:=by simp[ByteArray.size]
theorem D2m(w:World)(s:List UInt8)(n:Nat)(h:n<=s.length)(hs:s.length<=281474976710656):
  (Instr.slice 9 (.string ⟨s.toArray⟩) none (some (.int .i64 (n:Nat))) none).run Tryz.prog w= .ok (.string ⟨(s.take n).toArray⟩) w:=by
 rw[run_slice_string_to_if w 9 _ .i64 _ Tryz.underlying9,if_pos (by rw[A8j];omega)];congr 2;apply ByteArray.ext;rw[Int.toNat_natCast];apply Array.toList_inj.1;rw[Lib.extract_data];simp
theorem B6c(w:World)(s:List UInt8)(n:Nat)(h:n<=s.length)(hs:s.length<=281474976710656):
  (Instr.slice 9 (.string ⟨s.toArray⟩) (some (.int .i64 (n:Nat))) none none).run Tryz.prog w= .ok (.string ⟨(s.drop n).toArray⟩) w:=by
 rw[run_slice_string_from_if w 9 _ .i64 _ Tryz.underlying9,if_pos (by rw[A8j];omega)];congr 2;apply ByteArray.ext;rw[Int.toNat_natCast];apply Array.toList_inj.1;rw[Lib.extract_data];simp
 rw[A8j,List.take_of_length_le (by rw[List.length_drop];omega)]
theorem C9q(w:World)(s:List UInt8)(n m:Nat)(h:n<=m)(hm:m<=s.length)(hs:s.length<=281474976710656):
  (Instr.slice 9 (.string ⟨s.toArray⟩) (some (.int .i64 (n:Nat))) (some (.int .i64 (m:Nat))) none).run Tryz.prog w= .ok (.string ⟨((s.take m).drop n).toArray⟩) w:=by
 rw[run_slice_string w 9 _ .i64 .i64 _ _ Tryz.underlying9 (by omega) (by omega) (by rw[A8j];omega)];congr 2;apply ByteArray.ext;rw[Int.toNat_natCast,Int.toNat_natCast];apply Array.toList_inj.1
 rw[Lib.extract_data];simp;rw[List.drop_take]
theorem D6h(t:List UInt8):(Lib.cut t [59]).1.length<=t.length:=by
 by_cases h:(Lib.cut t [59]).2.2=true
 ·have:=congrArg List.length (C3e h).1;simp only[List.length_append,List.length_cons]at this;omega
 by_cases h1:Lib.index t [59]= -1
 ·rw[C4k 59 t h1];exact Nat.le_refl _
 have hg:=Lib.index_ge t [59];obtain⟨i,hi⟩:∃i:Nat,Lib.index t [59]=i:=⟨(Lib.index t [59]).toNat,by omega⟩;rw[C8t 59 t i hi]at h;exact absurd rfl h
theorem C8g(w:World)(s:List UInt8)(hl:s.length<=65536)(hv:VW w):Calls Tryz.prog 51 #[.string ⟨s.toArray⟩] w fun e w'=>e= .returned (.string ⟨(s.take (C3w s)).toArray⟩)/\Below w.heap.size w w':=by
 obtain⟨d,hd⟩:=exz (B5c s);obtain⟨B,hB⟩:=exz (s.drop d);have hdl:d<=s.length:=by rw[hd];exact C2i s
 have hBl:B.length=s.length-d:=by rw[hB,List.length_drop]
 have hcut:C3w s=D8r d B:=by unfold C3w;rw[hB,hd]
 have HT:=hzz (show Calls Tryz.prog 95 #[.string ⟨s.toArray⟩,.string ⟨#[91]⟩] w fun e w'=>e= .returned (.string ⟨B.toArray⟩)/\w'=w by
  have:=Tryz.strings_TrimLeft_one ⟨s.toArray⟩ 91 (by decide) w;rw[show Lib.trimLeftB (⟨s.toArray⟩:ByteArray).data.toList 91=B by unfold Lib.trimLeftB;rw[hB,hd];exact D0a s]at this;exact this)
 have hto:=fun w' n (h:n<=s.length)=>D2m w' s n h (by omega)
 have hsub:(s.length:Int) -(B.length:Int)=(d:Int):=by omega
 have hv0:=hv;have HV:=hzz hv;have HB0:=hzz (Below.refl w.heap.size w);have HBL:=hzz hBl;rw[hcut];clear hv hcut hd hBl
 cases B with
 |nil=>
  clear hto hB;go_enter Tryz.func51,Tryz.ntmps51
  go_wp2_with fail
  refine HT.out.mono ?_;rintro e w1 ⟨rfl,rfl⟩
  go_wp2_with fail
  go_ret;exact⟨rfl,HB0.out⟩
 |cons c t=>
 have htl:t.length+1=s.length-d:=HBL.out;have hsub2:(s.length:Int) -((t.length:Int)+1)=(d:Int):=by omega
 have hto1:=fun w'=>show(Instr.slice 9 (.string ⟨s.toArray⟩) none (some (.int .i64 ((d:Int)+1))) none).run Tryz.prog w'= .ok (.string ⟨(s.take (d+1)).toArray⟩) w' from hto w' (d+1) (by omega)
 have hfr:=fun w'=>show(Instr.slice 9 (.string ⟨(c::t).toArray⟩) (some (.int .i64 1)) none none).run Tryz.prog w'= .ok (.string ⟨t.toArray⟩) w' from B6c w' (c::t) 1 (by simp) (by simp;omega)
 have htl2:t.length<=65536:=by omega
 have hix:(({data:=(c::t).toArray}:ByteArray)[0]'(by rw[A8j];simp)).toNat=c.toNat:=rfl;have HTO:=hzz hto;have HTL:=hzz htl;rw[B9f]
 have hne:∀k:Nat,k<256->c≠UInt8.ofNat k->((c.toNat:Int)==(k:Int))=false:=fun k hk h=>by
  rw[beq_eq_false_iff_ne];intro e;apply h;apply UInt8.toNat_inj.1;rw[UInt8.toNat_ofNat_of_lt' (by simpa using hk)];omega
 clear hto hB htl hsub;by_cases h8:8<d
 ·rw[if_pos h8];have d8:(8:Int)<d:=by omega
  clear h8 hne hto1 hfr;go_enter Tryz.func51,Tryz.ntmps51
  go_wp2_with fail
  refine HT.out.mono ?_;rintro e w1 ⟨rfl,rfl⟩
  go_wp2_with fail
  go_ret;exact⟨rfl,HB0.out⟩
 rw[if_neg h8];have d8:¬(8:Int)<d:=by omega
 have d9:(d:Int)<=8:=by omega
 have d0:(0:Int)<=d:=by omega
 have hyes:∀k:Nat,k<256->c=UInt8.ofNat k->((c.toNat:Int)==(k:Int))=true:=fun k hk h=>by
  rw[beq_iff_eq,h,UInt8.toNat_ofNat_of_lt' (by simpa using hk)]
 have hto2:=fun(h:d=0) w'=>show(Instr.slice 9 (.string ⟨s.toArray⟩) none (some (.int .i64 1)) none).run Tryz.prog w'= .ok (.string ⟨(s.take (d+1)).toArray⟩) w' from by
  have:=HTO.out w' (d+1) (by omega);subst h;exact this
 by_cases h1:c=73\/(c=74/\d=0)\/(c=66/\0<d)
 ·rw[if_pos h1];by_cases h73:c=73
  ·have q73:((c.toNat:Int)==73)=true:=hyes 73 (by decide) h73;clear h8 h1 h73 hne hyes hfr hto2;go_enter Tryz.func51,Tryz.ntmps51
   go_wp2_with fail
   refine HT.out.mono ?_;rintro e w1 ⟨rfl,rfl⟩
   go_wp2_with fail
   go_ret;exact⟨rfl,HB0.out⟩
  have q73:((c.toNat:Int)==73)=false:=hne 73 (by decide) h73;by_cases h74:c=74/\d=0
  ·have q74:((c.toNat:Int)==74)=true:=hyes 74 (by decide) h74.1;have z0:((d:Int)==0)=true:=by rw[h74.2];rfl
   clear h8 h1 h73 h74 hne hyes hfr hto2;go_enter Tryz.func51,Tryz.ntmps51
   go_wp2_with fail
   refine HT.out.mono ?_;rintro e w1 ⟨rfl,rfl⟩
   go_wp2_with fail
   go_ret;exact⟨rfl,HB0.out⟩
  have h66:c=66/\0<d:=by
   rcases h1 with h|h|h
   ·exact absurd h h73
   ·exact absurd h h74
   exact h
  have q74:((c.toNat:Int)==74)=false:=hne 74 (by decide) (by rw[h66.1];decide);have q66:((c.toNat:Int)==66)=true:=hyes 66 (by decide) h66.1;have d1:(0:Int)<d:=by omega
  clear h8 h1 h73 h74 h66 hne hyes hfr hto2;go_enter Tryz.func51,Tryz.ntmps51
  go_wp2_with fail
  refine HT.out.mono ?_;rintro e w1 ⟨rfl,rfl⟩
  go_wp2_with fail
  go_ret;exact⟨rfl,HB0.out⟩
 rw[if_neg h1];have q73:((c.toNat:Int)==73)=false:=hne 73 (by decide) (fun h=>h1 (.inl h));have HN74:=hzz (fun(h:¬d=0)=>show((d:Int)==0)=false by rw[beq_eq_false_iff_ne];omega)
 by_cases h76:c=76
 ·rw[if_pos h76];have q76:((c.toNat:Int)==76)=true:=hyes 76 (by decide) h76;have q74:((c.toNat:Int)==74)=false:=hne 74 (by decide) (by rw[h76];decide)
  have q66:((c.toNat:Int)==66)=false:=hne 66 (by decide) (by rw[h76];decide);have hcut:=D7b w t 59 (by omega) hv0;have hnl:=D6h t;have hyl:=fun h=>congrArg List.length (@C3e t h).1
  obtain⟨⟨nm,r,ok⟩,hct⟩:∃R,Lib.cut t [59]=R:=⟨_,rfl⟩;rw[hct]at hcut hnl hyl⊢;simp only[List.length_append,List.length_cons]at hcut hnl hyl⊢;have HCT:=hzz hcut
  have HIC:=hzz (fun w h=>A6w w nm (by omega) h);clear hcut hct
  cases ok with
  |false=>
   rw[if_neg (fun h=>absurd h.1 (by decide))];clear h8 h1 h76 hne hyes hyl hto2 HIC;go_enter Tryz.func51,Tryz.ntmps51
   go_wp2_with fail
   refine HT.out.mono ?_;rintro e w1 ⟨rfl,rfl⟩
   go_wp2_with fail
   refine HCT.out.mono ?_;rintro e w2 ⟨rfl,hb2,_⟩;have HB2:=hzz hb2;clear hb2
   go_wp2_with fail
   go_ret;exact⟨rfl,HB2.out⟩
  |true=>
  have hy:=hyl rfl
  cases hcb:A1b nm with
  |false=>
   rw[hcb]at HIC;rw[if_neg (fun h=>absurd h.2 (by decide))];clear h8 h1 h76 hne hyes hyl hto2 hcb hy;go_enter Tryz.func51,Tryz.ntmps51
   go_wp2_with fail
   refine HT.out.mono ?_;rintro e w1 ⟨rfl,rfl⟩
   go_wp2_with fail
   refine HCT.out.mono ?_;rintro e w2 ⟨rfl,hb2,_⟩;have HB2:=hzz hb2;clear hb2
   go_wp2_with fail
   refine(HIC.out w2 (HV.out.below HB2.out)).mono ?_;rintro e w3 ⟨rfl,hb3⟩;have HB3:=btz HB2 hb3;clear hb3
   go_wp2_with fail
   go_ret;exact⟨rfl,HB3.out⟩
  |true=>
  rw[hcb]at HIC;rw[if_pos ⟨rfl,rfl⟩]
  have hto3:=fun w'=>show(Instr.slice 9 (.string ⟨s.toArray⟩) none (some (.int .i64 ((d:Int)+(nm.length:Int)+2))) none).run Tryz.prog w'= .ok (.string ⟨(s.take (d+nm.length+2)).toArray⟩) w' from HTO.out w' (d+nm.length+2) (by have:=HTL.out;omega)
  have b1:(nm.length:Int)<=65536:=by omega
  clear h8 h1 h76 hne hyes hyl hto2 hto1 hcb hy;go_enter Tryz.func51,Tryz.ntmps51
  go_wp2_with fail
  refine HT.out.mono ?_;rintro e w1 ⟨rfl,rfl⟩
  go_wp2_with fail
  refine HCT.out.mono ?_;rintro e w2 ⟨rfl,hb2,_⟩;have HB2:=hzz hb2;clear hb2
  go_wp2_with fail
  refine(HIC.out w2 (HV.out.below HB2.out)).mono ?_;rintro e w3 ⟨rfl,hb3⟩;have HB3:=btz HB2 hb3;clear hb3
  go_wp2_with fail
  go_ret;exact⟨rfl,HB3.out⟩
 rw[if_neg h76];have q76:((c.toNat:Int)==76)=false:=hne 76 (by decide) h76;by_cases h74:c=74
 ·have q74:((c.toNat:Int)==74)=true:=hyes 74 (by decide) h74;have z0:=HN74.out (fun h=>h1 (.inr (.inl ⟨h74,h⟩)))
  have q66:((c.toNat:Int)==66)=false:=hne 66 (by decide) (by rw[h74];decide);clear h8 h1 h74 h76 hne hyes hfr hto1 hto2;go_enter Tryz.func51,Tryz.ntmps51
  go_wp2_with fail
  refine HT.out.mono ?_;rintro e w1 ⟨rfl,rfl⟩
  go_wp2_with fail
  go_ret;exact⟨rfl,HB0.out⟩
 have q74:((c.toNat:Int)==74)=false:=hne 74 (by decide) h74;by_cases h66:c=66
 ·have q66:((c.toNat:Int)==66)=true:=hyes 66 (by decide) h66;have d1:¬(0:Int)<d:=fun h=>h1 (.inr (.inr ⟨h66,by omega⟩))
  clear h8 h1 h74 h76 h66 hne hyes hfr hto1 hto2;go_enter Tryz.func51,Tryz.ntmps51
  go_wp2_with fail
  refine HT.out.mono ?_;rintro e w1 ⟨rfl,rfl⟩
  go_wp2_with fail
  go_ret;exact⟨rfl,HB0.out⟩
 have q66:((c.toNat:Int)==66)=false:=hne 66 (by decide) h66;clear h8 h1 h74 h76 h66 hne hyes hfr hto1 hto2;go_enter Tryz.func51,Tryz.ntmps51
 go_wp2_with fail
 refine HT.out.mono ?_;rintro e w1 ⟨rfl,rfl⟩
 go_wp2_with fail
 go_ret;exact⟨rfl,HB0.out⟩
def B0d(x:List UInt8):Value:= .string ⟨x.toArray⟩
theorem D7x(s:List UInt8)(n:Nat)(h:n<=s.length):(s.take n==s)=decide (n=s.length):=by
 rw[Bool.eq_iff_iff,beq_iff_eq,decide_eq_true_iff];constructor
 ·intro e;have:=congrArg List.length e;rw[List.length_take]at this;omega
 intro e;rw[e,List.take_length]
theorem A2v(w:World)(s:List UInt8)(hl:s.length<=65536)(hv:VW w):Calls Tryz.prog 23 #[.string ⟨s.toArray⟩] w fun e w'=>e= .returned (.bool (typeB s))/\Below w.heap.size w w':=by
 have HC:=hzz (C8g w s hl hv);have HB0:=hzz (Below.refl w.heap.size w);have he:=D7x s (C3w s) (C9s s)
 cases s with
 |nil=>
  clear he;go_enter Tryz.func23,Tryz.ntmps23
  go_wp2_with fail
  go_ret;exact⟨rfl,HB0.out⟩
 |cons c t=>
 obtain⟨r,hr⟩:=exz (decide (C3w (c::t)=(c::t).length));have HT:=hzz (show typeB (c::t)=r by rw[hr];rfl);rw[<-hr]at he;clear hr hl;generalize(c::t).take (C3w (c::t))=u at*
 go_enter Tryz.func23,Tryz.ntmps23
 go_wp2_with fail
 refine HC.out.mono ?_;rintro e w1 ⟨rfl,hb1⟩;have HB1:=hzz hb1;clear hb1
 go_wp2_with fail
 go_ret;exact⟨A4i HT.out.symm,HB1.out⟩
theorem B5n(n:Nat)(s:List UInt8)(h:s=[]\/s.head? =some 41):B2d n s=some s:=by
 unfold B2d;rw[if_pos h]
theorem B5q(c:UInt8)(t:List UInt8)(h:¬c=41):B2d 0 (c::t)=none:=by
 have:¬(c::t=[]\/(c::t).head? =some 41):=by simp[h]
 unfold B2d;rw[if_neg this]
theorem B5r(n:Nat)(c:UInt8)(t:List UInt8)(h:¬c=41):B2d (n+1) (c::t)=if C3w (c::t)=0 then none else B2d n ((c::t).drop (C3w (c::t))):=by
 have:¬(c::t=[]\/(c::t).head? =some 41):=by simp[h]
 rw[B2d,if_neg this]
theorem C4z(r:List UInt8):A3k (40::r)=D3e (B2d 16 r):=by
 simp[A3k]
def D8d(b:Bool)(w:World)(e:Ending)(w':World):Prop:=(∃v1 v2,e= .returned (.tuple #[v1,v2,.int .i64 (if b then 0 else 8)]))/\Below w.heap.size w w'
theorem D6a:C9i 86 9 (.string ⟨#[]⟩) 16:=⟨Tryz.underlying86,by kernel_rfl,rfl⟩
theorem C5t(w:World)(s:List UInt8)(hl:s.length<=65536)(hv:VW w):Calls Tryz.prog 97 #[.string ⟨s.toArray⟩] w (D8d (A3k s) w):=by
 have HV:=hzz hv;have HB0:=hzz (Below.refl w.heap.size w);have HP:=hzz (fun w (s:List UInt8)=>Tryz.strings_CutPrefix ⟨s.toArray⟩ ⟨#[40]⟩ w)
 have HP2:=hzz (fun w (s:List UInt8)=>Tryz.strings_CutPrefix ⟨s.toArray⟩ ⟨#[41]⟩ w);clear hv;by_cases h40:s.head? =some 40
 ·obtain⟨r,rfl⟩:∃r,s=40::r:=by
   cases s with
   |nil=>simp at h40
   |cons c r=>simp at h40;exact⟨r,by rw[h40]⟩
  rw[C4z];have hp:=HP.out w (40::r)
  rw[show Lib.trimPrefix (⟨(40::r).toArray⟩:ByteArray).data.toList (⟨#[40]⟩:ByteArray).data.toList=r by simp[Lib.trimPrefix,Lib.hasPrefix],show Lib.hasPrefix (⟨(40::r).toArray⟩:ByteArray).data.toList (⟨#[40]⟩:ByteArray).data.toList=true by simp[Lib.hasPrefix]]at hp
  have HP1:=hzz hp;have hrl:r.length<=65536:=by simp at hl;omega
  obtain⟨A0,hA0⟩:=exz (B2d 16 r);have HA0:=hzz hA0;rw[<-hA0];obtain⟨T,hT⟩:=exz (D3e A0);have HT0:=hzz hT;rw[<-hT];clear hp HP h40 hl hA0 hT;go_enter Tryz.func97,Tryz.ntmps97
  go_wp2_with fail
  refine HP1.out.mono ?_;rintro e w1 ⟨rfl,rfl⟩
  go_wp2_with fail
  go_loopg [5,7] 17 (fun gn sv av wr=>∃(k:Nat) (r:List UInt8) (L:List (List UInt8)) (a:Option Addr) (c:Nat),k<=16/\gn=17-k/\sv= .string ⟨r.toArray⟩/\av= .slice a k c/\r.length<=65536/\Hid (B2d (16-k) r=A0)/\Hid (wr.ownsRow w1.heap.size 9 1 (.slice a k c) k (L.map B0d))/\Hid (Below w1.heap.size w1 wr))
  case atStart=>exact⟨0,r,[],none,0,by omega,by omega,rfl,rfl,hrl,hzz HA0.out.symm,hzz (World.ownsRow_nil _ _ _ _),HB0⟩
  obtain⟨k,r,L,a,c,hk,rfl,rfl,rfl,hrl,HA,HO,HB⟩:=hrel
  cases r with
  |nil=>
   have hT:T=false:=by rw[HT0.out,<-HA.out,B5n _ _ (.inl rfl)];rfl
   subst hT;have hp:=HP2.out wr []
   rw[show Lib.trimPrefix (⟨([]:List UInt8).toArray⟩:ByteArray).data.toList (⟨#[41]⟩:ByteArray).data.toList=[]from rfl,show Lib.hasPrefix (⟨([]:List UInt8).toArray⟩:ByteArray).data.toList (⟨#[41]⟩:ByteArray).data.toList=false from rfl]at hp
   have HP3:=hzz hp;clear hp HP2
   go_wp2_with fail
   refine HP3.out.mono ?_;rintro e w2 ⟨rfl,rfl⟩
   go_wp2_with fail
   go_ret3;exact⟨⟨_,_,rfl⟩,HB.out⟩
  |cons d t=>
  have hix:(({data:=(d::t).toArray}:ByteArray)[0]'(by rw[A8j];simp)).toNat=d.toNat:=rfl;by_cases h41:d=41
  ·have q41:((d.toNat:Int)==41)=true:=by rw[h41];rfl
   have hA:A0=some (d::t):=by rw[<-HA.out,B5n _ _ (.inr (by rw[h41];rfl))]
   have hp:=HP2.out wr (d::t)
   rw[show Lib.trimPrefix (⟨(d::t).toArray⟩:ByteArray).data.toList (⟨#[41]⟩:ByteArray).data.toList=t by subst h41;simp[Lib.trimPrefix,Lib.hasPrefix],show Lib.hasPrefix (⟨(d::t).toArray⟩:ByteArray).data.toList (⟨#[41]⟩:ByteArray).data.toList=true by subst h41;simp[Lib.hasPrefix]]at hp
   have HP3:=hzz hp;have HTB:=hzz (show T=(decide (t=[86])||typeB t) by rw[HT0.out,hA,h41];simp[D3e]);have htl:t.length<=65536:=by simp at hrl;omega
   have HTY:=hzz (fun w h=>A2v w t htl h);obtain⟨y,hy⟩:=exz (typeB t);rw[<-hy]at HTB HTY;clear hp HP2 hA h41 hrl hy;by_cases h86:t=[86]
   ·have hT:T=true:=by rw[HTB.out,decide_eq_true h86,Bool.true_or]
    subst hT h86
    go_wp2_with fail
    refine HP3.out.mono ?_;rintro e w2 ⟨rfl,rfl⟩
    go_wp2_with fail
    go_ret3;exact⟨⟨_,_,rfl⟩,HB.out⟩
   have hT:T=y:=by rw[HTB.out,decide_eq_false h86,Bool.false_or]
   subst hT;have he:(t==[86])=false:=by simpa using h86
   clear h86
   go_wp2_with fail
   refine HP3.out.mono ?_;rintro e w2 ⟨rfl,rfl⟩
   go_wp2_with fail
   refine(HTY.out w2 (HV.out.below HB.out)).mono ?_;rintro e w3 ⟨rfl,hb3⟩;have HB3:=btz HB hb3;clear hb3
   cases T
   ·go_wp2_with fail
    go_ret3;exact⟨⟨_,_,rfl⟩,HB3.out⟩
   go_wp2_with fail
   go_ret3;exact⟨⟨_,_,rfl⟩,HB3.out⟩
  have q41:((d.toNat:Int)==41)=false:=by
   rw[beq_eq_false_iff_ne];intro h;exact h41 (UInt8.toNat_inj.1 (by rw[show(41:UInt8).toNat=41 from rfl];omega))
  obtain⟨m,hm⟩:=exz (C3w (d::t));have hml:=C9s (d::t);have HCU:=hzz (C8g wr (d::t) hrl (HV.out.below HB.out));rw[<-hm]at HCU hml;by_cases h0:m=0
  ·have hT:T=false:=by
    rw[HT0.out,<-HA.out];by_cases hk6:k=16
    ·subst hk6;rw[B5q d t h41];rfl
    rw[show 16-k=(15-k)+1 by omega,B5r _ d t h41,<-hm,if_pos h0];rfl
   subst hT;rw[h0,List.take_zero]at HCU;clear HA hm hml h0 h41 HP2
   go_wp2_with fail
   refine HCU.out.mono ?_;rintro e w2 ⟨rfl,hb2⟩;have HB2:=btz HB hb2;clear hb2
   go_wp2_with fail
   go_ret3;exact⟨⟨_,_,rfl⟩,HB2.out⟩
  obtain⟨m1,hm1⟩:∃m1,m=m1+1:=⟨m-1,by omega⟩;have HU:=hzz (show(d::t).take m=d::t.take m1 by rw[hm1,List.take_succ_cons]);rw[HU.out]at HCU
  have HUL:=hzz (show(t.take m1).length=m1 by rw[List.length_take];simp at hml;omega);by_cases hk6:k=16
  ·have hT:T=false:=by
    rw[HT0.out,<-HA.out];subst hk6;rw[B5q d t h41];rfl
   subst hT;have k16:((k:Int)==16)=true:=by rw[hk6];rfl
   generalize t.take m1=u at*;clear HA hm hml h0 h41 HP2 hk6 hk
   go_wp2_with fail
   refine HCU.out.mono ?_;rintro e w2 ⟨rfl,hb2⟩;have HB2:=btz HB hb2;clear hb2
   go_wp2_with fail
   go_ret3;exact⟨⟨_,_,rfl⟩,HB2.out⟩
  have k16:((k:Int)==16)=false:=by rw[beq_eq_false_iff_ne];omega
  have HA2:=hzz (show B2d (16-(k+1)) ((d::t).drop m)=A0 by
   rw[<-HA.out,show 16-k=(16-(k+1))+1 by omega,B5r _ d t h41,<-hm,if_neg h0])
  have hfr:=fun w'=>show(Instr.slice 9 (.string ⟨(d::t).toArray⟩) (some (.int .i64 ((m1:Int)+1))) none none).run Tryz.prog w'= .ok (.string ⟨((d::t).drop m).toArray⟩) w' from by
   have:=B6c w' (d::t) m hml (by omega);subst hm1;exact this
  have HDL:=hzz (show((d::t).drop m).length<=65536 by rw[List.length_drop];omega);have HOD:=hzz (fun W=>(A0x (w':=W) HO.out));have hul:=HUL.out;generalize(d::t).drop m=r2 at*
  generalize t.take m1=u at*;subst hul;have k15:k<=15:=by omega
  have hk0:(0:Int)<=(u.length:Int)+1:=by omega
  clear hm hml h0 h41 HP2 hk6 hk hm1 HA HU HUL
  go_wp2_with fail
  refine HCU.out.mono ?_;rintro e w2 ⟨rfl,hb2⟩;have HB2:=btz HB hb2;have HO2:=hzz (HOD.out w2 hb2);clear hb2 HOD
  go_wp2_with fail
  go_region_law ((refine A9g D6a (by rfl) _ _ (by rfl) w1.heap.size _ _ _ (by rfl) HO2.out.drew _ 1 _ (by rfl) (by rfl) (by rfl) (by omega) (by unfold maxLen;omega) HB2.out.size ?_;intro v3 w3 hown3 hg3 hb3))
  obtain⟨a3,c3,rfl,_,_⟩:=Sl.ofOwn (enc:=B0d) (xs:=L++[d::u]) (by rw[List.map_append];exact hown3)
  have HO3:=hzz (show w3.ownsRow w1.heap.size 9 1 (.slice a3 (k+1) c3) (k+1) ((L++[d::u]).map B0d) by rw[List.map_append];exact hown3);have HB3:=hzz (HB2.out.trans ((brz.drew).trans hb3))
  clear hown3 hg3 hb3
  go_wp2_with fail
  go_roundg (17-(k+1))
  case measure=>omega
  exact⟨k+1,r2,L++[d::u],a3,c3,by omega,rfl,rfl,rfl,HDL.out,HA2,HO3,HB3⟩
 have hT:A3k s=false:=by
  cases s with
  |nil=>rfl
  |cons c r=>
  have:¬c=40:=fun h=>h40 (by rw[h];rfl)
  simp[A3k,this]
 rw[hT];have hp:=HP.out w s
 rw[show Lib.hasPrefix (⟨s.toArray⟩:ByteArray).data.toList (⟨#[40]⟩:ByteArray).data.toList=false by
  cases s with
  |nil=>rfl
  |cons c r=>
  have:¬c=40:=fun h=>h40 (by rw[h];rfl)
  simp[Lib.hasPrefix,List.isPrefixOf,Ne.symm this]]at hp
 have HP1:=hzz hp;clear hp HP hT h40;go_enter Tryz.func97,Tryz.ntmps97
 go_wp2_with fail
 refine HP1.out.mono ?_;rintro e w1 ⟨rfl,rfl⟩
 go_wp2_with fail
 go_ret3;exact⟨⟨_,_,rfl⟩,HB0.out⟩
def D5e(c:List UInt8):List UInt8:=76::(c++[59])
def A9w(t:List UInt8):Bool:=decide (2<=t.length)&&(decide (t.head? =some 76)&&decide (t.getLast? =some 59))
def B7q(t:List UInt8):List UInt8:=if A9w t then(t.take (t.length-1)).drop 1 else []
theorem C9d(s:List UInt8)(c:UInt8):Lib.hasPrefix s [c]=decide (s.head? =some c):=by
 cases s with
 |nil=>rfl
 |cons d t=>
 rw[Bool.eq_iff_iff];simp[Lib.hasPrefix,List.isPrefixOf];exact eq_comm
theorem D6k(s:List UInt8)(c:UInt8):Lib.hasSuffix s [c]=decide (s.getLast? =some c):=by
 rw[Bool.eq_iff_iff,decide_eq_true_iff,Lib.hasSuffix,List.isSuffixOf_iff_suffix];constructor
 ·rintro⟨q,rfl⟩;simp
 intro h;obtain⟨q,hq⟩:=List.getLast?_eq_some_iff.1 h;exact⟨q,hq.symm⟩
theorem C5b(w:World)(s:List UInt8)(hl:s.length<=65536):Calls Tryz.prog 105 #[.string ⟨s.toArray⟩] w fun e w'=>e= .returned (.string ⟨(D5e s).toArray⟩)/\w'=w:=by
 have n1:¬9223372036854775807<1+s.length:=by omega
 have n2:¬9223372036854775807<1+s.length+1:=by omega
 have he:((⟨#[76]⟩:ByteArray)++(⟨s.toArray⟩:ByteArray))++(⟨#[59]⟩:ByteArray)=⟨(D5e s).toArray⟩:=by
  rw[show(⟨#[76]⟩:ByteArray)=⟨[76].toArray⟩from rfl,show(⟨#[59]⟩:ByteArray)=⟨[59].toArray⟩from rfl,C9v,C9v];rfl
 have HE:=hzz he;clear he;go_enter Tryz.func105,Tryz.ntmps105
 go_wp2_with fail
 go_ret;exact⟨by rw[<-HE.out];rfl,rfl⟩
theorem A8f(w:World)(s:List UInt8)(hl:s.length<=65536)(hv:VW w):Calls Tryz.prog 49 #[.string ⟨s.toArray⟩] w fun e w'=>e= .returned (.bool (A2g s))/\Below w.heap.size w w':=by
 have hp:=Tryz.strings_HasPrefix ⟨s.toArray⟩ ⟨#[91]⟩ w;rw[show Lib.hasPrefix (⟨s.toArray⟩:ByteArray).data.toList (⟨#[91]⟩:ByteArray).data.toList=decide (s.head? =some 91)from C9d s 91]at hp
 obtain⟨y,hy⟩:=exz (decide (s.head? =some 91));have HR:=hzz (show A2g s=(y&&typeB s) by rw[hy];rfl);rw[<-hy]at hp;have HP:=hzz hp;have HT:=hzz (A2v w s hl hv)
 have HB0:=hzz (Below.refl w.heap.size w);generalize A2g s=R at*;generalize typeB s=T at*;clear hp hy hv;go_enter Tryz.func49,Tryz.ntmps49
 go_wp2_with fail
 refine HP.out.mono ?_;rintro e w1 ⟨rfl,rfl⟩
 cases y
 ·go_wp2_with fail
  go_ret;exact⟨A4i (by rw[HR.out];rfl),HB0.out⟩
 go_wp2_with fail
 refine HT.out.mono ?_;rintro e w2 ⟨rfl,hb2⟩;have HB2:=hzz hb2;clear hb2
 go_wp2_with fail
 go_ret;exact⟨A4i (by rw[HR.out];rfl),HB2.out⟩
theorem A4t(w:World)(s:List UInt8)(hl:s.length<=65536)(hv:VW w):Calls Tryz.prog 52 #[.string ⟨s.toArray⟩] w fun e w'=>e= .returned (.bool (A3k s))/\Below w.heap.size w w':=by
 have HM:=hzz (C5t w s hl hv);generalize A3k s=T at*;clear hv hl
 cases T
 ·go_enter Tryz.func52,Tryz.ntmps52
  go_wp2_with fail
  refine HM.out.mono ?_;rintro e w1 ⟨⟨v1,v2,rfl⟩,hb⟩;simp only[Bool.false_eq_true,if_false]
  go_wp2_with fail
  go_ret;exact⟨rfl,hb⟩
 go_enter Tryz.func52,Tryz.ntmps52
 go_wp2_with fail
 refine HM.out.mono ?_;rintro e w1 ⟨⟨v1,v2,rfl⟩,hb⟩;simp only[if_true]
 go_wp2_with fail
 go_ret;exact⟨rfl,hb⟩
theorem B9x:∀(s:List UInt8),decide (0<=Lib.indexByte s 47)=s.contains 47
 |[]=>rfl
 |c::s=>by
  have ih:=B9x s;have hg:=Lib.indexByte_ge s 47;rw[List.contains_cons,<-ih,Lib.indexByte];by_cases h:c=47
  ·subst h;simp
  have h1:(c==47)=false:=by simpa using h
  have h2:((47:UInt8)==c)=false:=by simpa using Ne.symm h
  rw[h1,h2,Bool.false_or];simp only[Bool.false_eq_true,if_false];by_cases h3:Lib.indexByte s 47= -1
  ·rw[h3];rfl
  rw[if_neg (by simpa using h3)];apply decide_eq_decide.2;omega
theorem A4s(w:World)(s:List UInt8)(hl:s.length<=65536)(hv:VW w):Calls Tryz.prog 17 #[.string ⟨s.toArray⟩] w fun e w'=>e= .returned (.bool (A5e s))/\Below w.heap.size w w':=by
 have hp:=Tryz.strings_Contains_one ⟨s.toArray⟩ 47 w;rw[show decide (0<=Lib.indexByte (⟨s.toArray⟩:ByteArray).data.toList 47)=s.contains 47 from B9x s]at hp;obtain⟨y,hy⟩:=exz (s.contains 47)
 have HR:=hzz (show A5e s=(!y&&A1b s) by rw[hy];rfl);rw[<-hy]at hp;have HP:=hzz hp;have HT:=hzz (A6w w s (by omega) hv);have HB0:=hzz (Below.refl w.heap.size w)
 generalize A5e s=R at*;generalize A1b s=T at*;clear hp hy hv;go_enter Tryz.func17,Tryz.ntmps17
 go_wp2_with fail
 refine HP.out.mono ?_;rintro e w1 ⟨rfl,rfl⟩
 cases y
 ·go_wp2_with fail
  refine HT.out.mono ?_;rintro e w2 ⟨rfl,hb2⟩;have HB2:=hzz hb2;clear hb2
  go_wp2_with fail
  go_ret;exact⟨A4i (by rw[HR.out];rfl),HB2.out⟩
 go_wp2_with fail
 go_ret;exact⟨A4i (by rw[HR.out];rfl),HB0.out⟩
theorem C1a(w:World)(s:List UInt8)(hl:s.length<=65536):Calls Tryz.prog 124 #[.string ⟨s.toArray⟩] w fun e w'=>e= .returned (.tuple #[.string ⟨(B7q s).toArray⟩,.bool (A9w s)])/\w'=w:=by
 have hp:=fun w=>Tryz.strings_HasPrefix ⟨s.toArray⟩ ⟨#[76]⟩ w
 rw[show Lib.hasPrefix (⟨s.toArray⟩:ByteArray).data.toList (⟨#[76]⟩:ByteArray).data.toList=decide (s.head? =some 76)from C9d s 76]at hp
 have hq:=fun w=>Tryz.strings_HasSuffix ⟨s.toArray⟩ ⟨#[59]⟩ w (by rw[A8j];omega)
 rw[show Lib.hasSuffix (⟨s.toArray⟩:ByteArray).data.toList (⟨#[59]⟩:ByteArray).data.toList=decide (s.getLast? =some 59)from D6k s 59]at hq
 have HK:A9w s=(decide (2<=s.length)&&(decide (s.head? =some 76)&&decide (s.getLast? =some 59))):=rfl;generalize decide (s.head? =some 76)=p1 at*;generalize decide (s.getLast? =some 59)=p2 at*
 have HP:=hzz hp;have HQ:=hzz hq;by_cases h2:s.length<2
 ·have n2:(s.length:Int)<2:=by omega
  have hk:A9w s=false:=by rw[HK,decide_eq_false (by omega)];rfl
  have hvv:B7q s=[]:=by unfold B7q;rw[hk];rfl
  rw[hk,hvv];clear hp hq HK h2 hk hvv;go_enter Tryz.func124,Tryz.ntmps124
  go_wp2_with fail
  go_ret2;exact⟨rfl,rfl⟩
 have n2:¬(s.length:Int)<2:=by omega
 rw[decide_eq_true (by omega),Bool.true_and]at HK
 have hmd:=fun w'=>show(Instr.slice 9 (.string ⟨s.toArray⟩) (some (.int .i64 1)) (some (.int .i64 ((s.length:Int) -1))) none).run Tryz.prog w'= .ok (.string ⟨((s.take (s.length-1)).drop 1).toArray⟩) w' from by
  have:=C9q w' s 1 (s.length-1) (by omega) (by omega) (by omega);rw[show(((s.length-1:Nat)):Int)=(s.length:Int) -1 by omega]at this;exact this
 have hvv:B7q s=if A9w s then(s.take (s.length-1)).drop 1 else []:=rfl
 generalize B7q s=V at*;generalize A9w s=B at*;generalize(s.take (s.length-1)).drop 1=M at*;clear hp hq h2
 cases p1
 ·have hB:B=false:=HK;subst hB;simp only[Bool.false_eq_true,if_false]at hvv;subst hvv;clear HK;go_enter Tryz.func124,Tryz.ntmps124
  go_wp2_with fail
  refine(HP.out w).mono ?_;rintro e w1 ⟨rfl,rfl⟩
  go_wp2_with fail
  go_ret2;exact⟨rfl,rfl⟩
 cases p2
 ·have hB:B=false:=HK;subst hB;simp only[Bool.false_eq_true,if_false]at hvv;subst hvv;clear HK;go_enter Tryz.func124,Tryz.ntmps124
  go_wp2_with fail
  refine(HP.out w).mono ?_;rintro e w1 ⟨rfl,rfl⟩
  go_wp2_with fail
  refine(HQ.out w1).mono ?_;rintro e w2 ⟨rfl,rfl⟩
  go_wp2_with fail
  go_ret2;exact⟨rfl,rfl⟩
 have hB:B=true:=HK;subst hB;simp only[if_true]at hvv;subst hvv;clear HK;go_enter Tryz.func124,Tryz.ntmps124
 go_wp2_with fail
 refine(HP.out w).mono ?_;rintro e w1 ⟨rfl,rfl⟩
 go_wp2_with fail
 refine(HQ.out w1).mono ?_;rintro e w2 ⟨rfl,rfl⟩
 go_wp2_with fail
 go_ret2;exact⟨rfl,rfl⟩
end
end Go.Proofs.YtclpkipaehpkdaaGreatDoor
