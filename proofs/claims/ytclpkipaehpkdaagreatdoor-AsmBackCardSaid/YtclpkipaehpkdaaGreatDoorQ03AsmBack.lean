/- asm -/
import Derived.Test.YtclpkipaehpkdaaGreatDoorQ00AsmBack
import Derived.Laws.StructEq
set_option linter.unusedVariables false
set_option linter.unusedSimpArgs false
set_option maxRecDepth 100000
set_option maxHeartbeats 64000000
open Go.Proofs.Tryz
namespace Go.Proofs.YtclpkipaehpkdaaGreatDoor
section
open Go.ChangeShapes Go.WideShapes Go.ChangeAt Go.RowKit
theorem tZ(w:World)(a:Option Addr)(n cap:Nat)(L:List KV)(i t:Int)(hs:Ks w a n L)(hn:n<=65536):
  Calls prog 62 #[.slice a n cap,.int .i64 i,.int .i64 t] w fun e w'=>e= .returned (.bool (isT L i t))/\w=w':=by
 by_cases h1:i<1
 ·rw[fC h1];have h0:decide (1<=i)=false:=by simp;omega
  clear hs;go_enter func62,ntmps62
  go_wp2_with fail
  go_ret;exact⟨rfl,rfl⟩
 by_cases h2:(n:Int)<=i
 ·rw[gM (by rw[hs.1];exact h2)];have h0:decide (1<=i)=true:=by simp;omega
  have h3:decide (i<(n:Int))=false:=by simp;omega
  clear hs;go_enter func62,ntmps62
  go_wp2_with fail
  go_ret;exact⟨rfl,rfl⟩
 obtain⟨k,rfl⟩:∃k:Nat,i=k:=⟨i.toNat,by omega⟩;rw[eP (by omega) (by rw[hs.1];omega)];obtain⟨b,off,rfl,_,hk⟩:=hs.at k (by omega);have g0:=hk.c0;have k0:(1:Int)<=k:=by omega
 have k1:k<n:=by omega
 obtain⟨t0,Pu⟩:∃t0,t0=(kAt L k).tag:=⟨_,rfl⟩;rw[<-Pu]at g0⊢;clear hk hs h1 h2 Pu;by_cases ht:t0=t
 ·subst ht;have e1:(t0==t0)=true:=by simp
  go_enter func62,ntmps62
  go_wp2_with fail
  go_ret;exact⟨by simp,rfl⟩
 have e1:(t0==t)=false:=by simp[ht]
 rw[decide_eq_false ht];clear ht;go_enter func62,ntmps62
 go_wp2_with fail
 go_ret;exact⟨rfl,rfl⟩
def uJ(L:List KV)(i:Int)(w:World)(e:Ending)(w':World):Prop:=e= .returned (.tuple #[.string ⟨(yN L i).toArray⟩,.bool (isT L i 1)])/\w=w'
def uK(L:List KV)(i:Int)(w:World)(e:Ending)(w':World):Prop:=e= .returned (.tuple #[.string ⟨(yQ L i).1.toArray⟩,.bool (yQ L i).2])/\w=w'
def wu(L:List KV)(i t:Int)(w:World)(e:Ending)(w':World):Prop:=
 e= .returned (.tuple #[.string ⟨(xu L i t).1.toArray⟩,.string ⟨(xu L i t).2.1.toArray⟩,.string ⟨(xu L i t).2.2.1.toArray⟩,.bool (xu L i t).2.2.2])/\Below w.heap.size w w'
theorem wu.no{L:List KV}{i t:Int}{w w':World}(h:¬((t=9\/t=10)/\isT L i t=true/\isT L (kAt L i).b 12=true/\(yQ L (kAt L i).a).2=true/\isT L (kAt L (kAt L i).b).a 1=true/\isT L (kAt L (kAt L i).b).b 1=true))(hb:Below w.heap.size w w'):
  wu L i t w (.returned (.tuple #[.string ⟨#[]⟩,.string ⟨#[]⟩,.string ⟨#[]⟩,.bool false])) w':=by
 unfold wu xu;rw[if_neg h];exact⟨rfl,hb⟩
theorem wu.yes{L:List KV}{i t:Int}{w w':World}(h:((t=9\/t=10)/\isT L i t=true/\isT L (kAt L i).b 12=true/\(yQ L (kAt L i).a).2=true/\isT L (kAt L (kAt L i).b).a 1=true/\isT L (kAt L (kAt L i).b).b 1=true))(hb:Below w.heap.size w w'):
  wu L i t w (.returned (.tuple #[.string ⟨(yQ L (kAt L i).a).1.toArray⟩,.string ⟨(yN L (kAt L (kAt L i).b).a).toArray⟩,.string ⟨(yN L (kAt L (kAt L i).b).b).toArray⟩,.bool true])) w':=by
 unfold wu xu;rw[if_pos h];exact⟨rfl,hb⟩
theorem qq(w:World)(a:Option Addr)(n cap:Nat)(L:List KV)(i:Int)(hs:Ks w a n L)(hn:n<=65536):Calls prog 50 #[.slice a n cap,.int .i64 i] w (uJ L i w):=by
 have C1:=tS w a n cap L i 1 hs hn;unfold uJ yN
 cases h:isT L i 1
 ·rw[h]at C1;have K1:=Z' C1;clear C1 hs h;go_enter func50,ntmps50
  go_wp2_with fail
  refine K1.out.mono ?_;rintro e w' ⟨rfl,rfl⟩
  go_wp2_with fail
  go_ret2;exact⟨rfl,rfl⟩
 rw[h]at C1;have K1:=Z' C1;obtain⟨h1,h2,_⟩:=uh h;rw[hs.1]at h2;obtain⟨k,rfl⟩:∃k:Nat,i=k:=⟨i.toNat,by omega⟩;obtain⟨b,off,rfl,_,hk⟩:=hs.at k (by omega);have g4:=hk.c4;have k0:0<k:=by omega
 have k1:k<n:=by omega
 rw[if_pos rfl];clear C1 hs h h1 h2 hk;go_enter func50,ntmps50
 go_wp2_with fail
 refine K1.out.mono ?_;rintro e w' ⟨rfl,rfl⟩
 go_wp2_with fail
 go_ret2;exact⟨rfl,rfl⟩
theorem mQ(w:World)(a:Option Addr)(n cap:Nat)(L:List KV)(i:Int)(hs:Ks w a n L)(hn:n<=65536):Calls prog 48 #[.slice a n cap,.int .i64 i] w (uK L i w):=by
 have C1:=tS w a n cap L i 7 hs hn;unfold uK yQ
 cases h:isT L i 7
 ·rw[h]at C1;have K1:=Z' C1;clear C1 hs h;go_enter func48,ntmps48
  go_wp2_with fail
  refine K1.out.mono ?_;rintro e w' ⟨rfl,rfl⟩
  go_wp2_with fail
  go_ret2;exact⟨rfl,rfl⟩
 rw[h]at C1;have K1:=Z' C1;obtain⟨h1,h2,_⟩:=uh h;rw[hs.1]at h2;obtain⟨k,rfl⟩:∃k:Nat,i=k:=⟨i.toNat,by omega⟩;have C2:=qq w a n cap L (kAt L k).a hs hn;unfold uJ at C2;have K2:=Z' C2;obtain⟨b,off,rfl,_,hk⟩:=hs.at k (by omega);have g1:=hk.c1;have k0:0<k:=by omega
 have k1:k<n:=by omega
 rw[if_pos rfl];clear C1 C2 hs h h1 h2 hk;go_enter func48,ntmps48
 go_wp2_with fail
 refine K1.out.mono ?_;rintro e w' ⟨rfl,rfl⟩
 go_wp2_with fail
 refine K2.out.mono ?_;rintro e w' ⟨rfl,rfl⟩
 go_wp2_with fail
 go_ret2;exact⟨rfl,rfl⟩
theorem aH(w:World)(a:Option Addr)(n cap:Nat)(L:List KV)(i t:Int)(hs:Ks w a n L)(hn:n<=65536):Calls prog 150 #[.slice a n cap,.int .i64 i,.int .i64 t] w (wu L i t w):=by
 by_cases h9:t=9\/t=10
 ·have e9:((t !=9)&&(t !=10))=false:=by rcases h9 with rfl|rfl<;>rfl
  have C1:=tS w a n cap L i t hs hn;have H9:=Z' h9
  have tw:(t=9/\True)\/(t=10/\True):=by rcases h9 with rfl|rfl;exact .inl ⟨rfl,trivial⟩;exact .inr ⟨rfl,trivial⟩
  clear e9 h9
  cases h:isT L i t
  ·rw[h]at C1;have K1:=Z' C1;have HH:=Z' h;clear C1 hs h
   rcases tw with⟨rfl,_⟩|⟨rfl,_⟩
   all_goals
    go_enter func150,ntmps150
    go_wp2_with fail
    refine K1.out.mono ?_;rintro e w' ⟨rfl,rfl⟩
    go_wp2_with fail
    refine bodyPost_ret (v:= .tuple #[.string ⟨#[]⟩,.string ⟨#[]⟩,.string ⟨#[]⟩,.bool false]) (by simp[results,results150,go_sem]) rfl (wu.no (fun x=> ?_) Z6);rw[HH.out]at x;exact absurd x.2.1 (by decide)
  rw[h]at C1;have K1:=Z' C1;obtain⟨h1,h2,_⟩:=uh h;rw[hs.1]at h2;obtain⟨k,rfl⟩:∃k:Nat,i=k:=⟨i.toNat,by omega⟩;have HH:=Z' h;have C2:=tS w a n cap L (kAt L k).b 12 hs hn;obtain⟨b,off,rfl,Zu,hk⟩:=hs.at k (by omega);have g1:=hk.c1;have g2:=hk.c2;have k0:0<k:=by omega
  have k1:k<n:=by omega
  have HS:=Z' hs;clear C1 h1 h2 hk h hs
  cases h:isT L (kAt L k).b 12
  ·rw[h]at C2;have K2:=Z' C2;have HI:=Z' h;clear C2 h
   rcases tw with⟨rfl,_⟩|⟨rfl,_⟩
   all_goals
    go_enter func150,ntmps150
    go_wp2_with fail
    refine K1.out.mono ?_;rintro e w' ⟨rfl,rfl⟩
    go_wp2_with fail
    refine K2.out.mono ?_;rintro e w' ⟨rfl,rfl⟩
    go_wp2_with fail
    refine bodyPost_ret (v:= .tuple #[.string ⟨#[]⟩,.string ⟨#[]⟩,.string ⟨#[]⟩,.bool false]) (by simp[results,results150,go_sem]) rfl (wu.no (fun x=> ?_) Z6);rw[HI.out]at x;exact absurd x.2.2.1 (by decide)
  rw[h]at C2;have K2:=Z' C2;have HI:=Z' h;obtain⟨h1,h2,_⟩:=uh h;rw[HS.out.1]at h2;obtain⟨m,hm⟩:∃m:Nat,(kAt L k).b=m:=⟨(kAt L k).b.toNat,by omega⟩;rw[hm]at h1 h2 g2 K2;obtain⟨b',off',he,_,hk⟩:=HS.out.at m (by omega)
  cases he
  have m0:0<m:=by omega
  have m1:m<n:=by omega
  obtain⟨q0,q1,q2,q3,q4⟩:=hk;have HM:=Z' hm;clear C2 h h1 h2 hm;have CC:∀w',Below w.heap.size w w'->Calls prog 48 #[.slice (some ⟨b,off,none⟩) n cap,.int .i64 (kAt L k).a] w' (uK L (kAt L k).a w'):=fun w' hb=>mQ w' _ n cap L _ (HS.out.below hb) hn
  have TA:∀w',Below w.heap.size w w'->Calls prog 50 #[.slice (some ⟨b,off,none⟩) n cap,.int .i64 (kAt L m).a] w' (uJ L (kAt L m).a w'):=fun w' hb=>qq w' _ n cap L _ (HS.out.below hb) hn
  have TB:∀w',Below w.heap.size w w'->Calls prog 50 #[.slice (some ⟨b,off,none⟩) n cap,.int .i64 (kAt L m).b] w' (uJ L (kAt L m).b w'):=fun w' hb=>qq w' _ n cap L _ (HS.out.below hb) hn
  unfold uK at CC;unfold uJ at TA TB;have ZE:=Z' CC;have RF:=Z' TA;have Rp:=Z' TB;have fin:∀(W:World),Below w.heap.size w W->Below w.heap.size w W:=fun _ h=>h
  clear CC TA TB fin
  have HR:=Z9 (∀W,Below w.heap.size w W->(yQ L (kAt L k).a).2=true->isT L (kAt L m).a 1=true->isT L (kAt L m).b 1=true->wu L k t w (.returned (.tuple #[.string ⟨(yQ L (kAt L k).a).1.toArray⟩,.string ⟨(yN L (kAt L m).a).toArray⟩,.string ⟨(yN L (kAt L m).b).toArray⟩,.bool true])) W) (
   fun W hW c1 c2 c3=>by
    have:=wu.yes (L:=L) (i:=k) (t:=t) (w:=w) (w':=W) ⟨H9.out,HH.out,HI.out,c1,by rw[HM.out];exact c2,by rw[HM.out];exact c3⟩ hW;rw[HM.out]at this;exact this)
  have HN:=Z9 (∀W,Below w.heap.size w W->((yQ L (kAt L k).a).2=false\/isT L (kAt L m).a 1=false\/isT L (kAt L m).b 1=false)->wu L k t w (.returned (.tuple #[.string ⟨#[]⟩,.string ⟨#[]⟩,.string ⟨#[]⟩,.bool false])) W) (
   fun W hW hx=>by
    refine wu.no (fun x=> ?_) hW;rw[HM.out]at x
    rcases hx with hx|hx|hx<;>simp[hx]at x)
  generalize(yQ L (kAt L k).a).1=s1 at*;generalize(yQ L (kAt L k).a).2=o1 at*;generalize isT L (kAt L m).a 1=o2 at*;generalize isT L (kAt L m).b 1=o3 at*;generalize yN L (kAt L m).a=s2 at*;generalize yN L (kAt L m).b=s3 at*;have KF:=Z' (Below.refl w.heap.size w)
  rcases tw with⟨rfl,_⟩|⟨rfl,_⟩
  all_goals
   go_enter func150,ntmps150
   go_wp2_with fail
   refine K1.out.mono ?_;rintro e w' ⟨rfl,rfl⟩
   go_wp2_with fail
   refine K2.out.mono ?_;rintro e w' ⟨rfl,rfl⟩
   go_wp2_with fail
   refine(ZE.out _ (Z6.alloc Z5 _)).mono ?_;rintro e w' ⟨rfl,rfl⟩
   go_wp2_with fail
   refine(RF.out _ (Z6.alloc Z5 _)).mono ?_;rintro e w' ⟨rfl,rfl⟩
   go_wp2_with fail
   refine(Rp.out _ (Z6.alloc Z5 _)).mono ?_;rintro e w' ⟨rfl,rfl⟩
   cases o1
   ·go_wp2_with fail
    exact bodyPost_ret (v:= .tuple #[.string ⟨#[]⟩,.string ⟨#[]⟩,.string ⟨#[]⟩,.bool false]) (by simp[results,results150,go_sem]) rfl (HN.out _ (Z6.alloc Z5 _) (by simp))
   ·cases o2
    ·go_wp2_with fail
     exact bodyPost_ret (v:= .tuple #[.string ⟨#[]⟩,.string ⟨#[]⟩,.string ⟨#[]⟩,.bool false]) (by simp[results,results150,go_sem]) rfl (HN.out _ (Z6.alloc Z5 _) (by simp))
    cases o3
    ·go_wp2_with fail
     exact bodyPost_ret (v:= .tuple #[.string ⟨#[]⟩,.string ⟨#[]⟩,.string ⟨#[]⟩,.bool false]) (by simp[results,results150,go_sem]) rfl (HN.out _ (Z6.alloc Z5 _) (by simp))
    go_wp2_with fail
    exact bodyPost_ret (v:= .tuple #[.string ⟨s1.toArray⟩,.string ⟨s2.toArray⟩,.string ⟨s3.toArray⟩,.bool true]) (by simp[results,results150,go_sem]) rfl (HR.out _ (Z6.alloc Z5 _) (by simp) (by simp) (by simp))
 have HH:=Z' h9;have e1:(t !=9)=true:=by simp;omega
 have e2:(t !=10)=true:=by simp;omega
 clear hs h9;go_enter func150,ntmps150
 go_wp2_with fail
 exact bodyPost_ret (v:= .tuple #[.string ⟨#[]⟩,.string ⟨#[]⟩,.string ⟨#[]⟩,.bool false]) (by simp[results,results150,go_sem]) rfl (wu.no (fun x=>HH.out x.1) Z6)
theorem qK(w:World)(a:Option Addr)(n cap:Nat)(L:List KV)(i:Int)(hs:Ks w a n L)(hn:n<=65536):Calls prog 63 #[.slice a n cap,.int .i64 i] w (uJ L i w):=by
 have C1:=tZ w a n cap L i 1 hs hn;unfold uJ yN
 cases h:isT L i 1
 ·rw[h]at C1;have K1:=Z' C1;clear C1 hs h;go_enter func63,ntmps63
  go_wp2_with fail
  refine K1.out.mono ?_;rintro e w' ⟨rfl,rfl⟩
  go_wp2_with fail
  go_ret2;exact⟨rfl,rfl⟩
 rw[h]at C1;have K1:=Z' C1;obtain⟨h1,h2,_⟩:=uh h;rw[hs.1]at h2;obtain⟨k,rfl⟩:∃k:Nat,i=k:=⟨i.toNat,by omega⟩;obtain⟨b,off,rfl,_,hk⟩:=hs.at k (by omega);have g4:=hk.c4;have k0:0<k:=by omega
 have k1:k<n:=by omega
 rw[if_pos rfl];clear C1 hs h h1 h2 hk;go_enter func63,ntmps63
 go_wp2_with fail
 refine K1.out.mono ?_;rintro e w' ⟨rfl,rfl⟩
 go_wp2_with fail
 go_ret2;exact⟨rfl,rfl⟩
theorem rV(w:World)(a:Option Addr)(n cap:Nat)(L:List KV)(i:Int)(hs:Ks w a n L)(hn:n<=65536):Calls prog 26 #[.slice a n cap,.int .i64 i] w (uK L i w):=by
 have C1:=tZ w a n cap L i 7 hs hn;unfold uK yQ
 cases h:isT L i 7
 ·rw[h]at C1;have K1:=Z' C1;clear C1 hs h;go_enter func26,ntmps26
  go_wp2_with fail
  refine K1.out.mono ?_;rintro e w' ⟨rfl,rfl⟩
  go_wp2_with fail
  go_ret2;exact⟨rfl,rfl⟩
 rw[h]at C1;have K1:=Z' C1;obtain⟨h1,h2,_⟩:=uh h;rw[hs.1]at h2;obtain⟨k,rfl⟩:∃k:Nat,i=k:=⟨i.toNat,by omega⟩;have C2:=qK w a n cap L (kAt L k).a hs hn;unfold uJ at C2;have K2:=Z' C2;obtain⟨b,off,rfl,_,hk⟩:=hs.at k (by omega);have g1:=hk.c1;have k0:0<k:=by omega
 have k1:k<n:=by omega
 rw[if_pos rfl];clear C1 C2 hs h h1 h2 hk;go_enter func26,ntmps26
 go_wp2_with fail
 refine K1.out.mono ?_;rintro e w' ⟨rfl,rfl⟩
 go_wp2_with fail
 refine K2.out.mono ?_;rintro e w' ⟨rfl,rfl⟩
 go_wp2_with fail
 go_ret2;exact⟨rfl,rfl⟩
theorem jW(w:World)(a:Option Addr)(n cap:Nat)(L:List KV)(i t:Int)(hs:Ks w a n L)(hn:n<=65536):Calls prog 154 #[.slice a n cap,.int .i64 i,.int .i64 t] w (wu L i t w):=by
 by_cases h9:t=9\/t=10
 ·have e9:((t !=9)&&(t !=10))=false:=by rcases h9 with rfl|rfl<;>rfl
  have C1:=tZ w a n cap L i t hs hn;have H9:=Z' h9
  have tw:(t=9/\True)\/(t=10/\True):=by rcases h9 with rfl|rfl;exact .inl ⟨rfl,trivial⟩;exact .inr ⟨rfl,trivial⟩
  clear e9 h9
  cases h:isT L i t
  ·rw[h]at C1;have K1:=Z' C1;have HH:=Z' h;clear C1 hs h
   rcases tw with⟨rfl,_⟩|⟨rfl,_⟩
   all_goals
    go_enter func154,ntmps154
    go_wp2_with fail
    refine K1.out.mono ?_;rintro e w' ⟨rfl,rfl⟩
    go_wp2_with fail
    refine bodyPost_ret (v:= .tuple #[.string ⟨#[]⟩,.string ⟨#[]⟩,.string ⟨#[]⟩,.bool false]) (by simp[results,results154,go_sem]) rfl (wu.no (fun x=> ?_) Z6);rw[HH.out]at x;exact absurd x.2.1 (by decide)
  rw[h]at C1;have K1:=Z' C1;obtain⟨h1,h2,_⟩:=uh h;rw[hs.1]at h2;obtain⟨k,rfl⟩:∃k:Nat,i=k:=⟨i.toNat,by omega⟩;have HH:=Z' h;have C2:=tZ w a n cap L (kAt L k).b 12 hs hn;obtain⟨b,off,rfl,Zu,hk⟩:=hs.at k (by omega);have g1:=hk.c1;have g2:=hk.c2;have k0:0<k:=by omega
  have k1:k<n:=by omega
  have HS:=Z' hs;clear C1 h1 h2 hk h hs
  cases h:isT L (kAt L k).b 12
  ·rw[h]at C2;have K2:=Z' C2;have HI:=Z' h;clear C2 h
   rcases tw with⟨rfl,_⟩|⟨rfl,_⟩
   all_goals
    go_enter func154,ntmps154
    go_wp2_with fail
    refine K1.out.mono ?_;rintro e w' ⟨rfl,rfl⟩
    go_wp2_with fail
    refine K2.out.mono ?_;rintro e w' ⟨rfl,rfl⟩
    go_wp2_with fail
    refine bodyPost_ret (v:= .tuple #[.string ⟨#[]⟩,.string ⟨#[]⟩,.string ⟨#[]⟩,.bool false]) (by simp[results,results154,go_sem]) rfl (wu.no (fun x=> ?_) Z6);rw[HI.out]at x;exact absurd x.2.2.1 (by decide)
  rw[h]at C2;have K2:=Z' C2;have HI:=Z' h;obtain⟨h1,h2,_⟩:=uh h;rw[HS.out.1]at h2;obtain⟨m,hm⟩:∃m:Nat,(kAt L k).b=m:=⟨(kAt L k).b.toNat,by omega⟩;rw[hm]at h1 h2 g2 K2;obtain⟨b',off',he,_,hk⟩:=HS.out.at m (by omega)
  cases he
  have m0:0<m:=by omega
  have m1:m<n:=by omega
  obtain⟨q0,q1,q2,q3,q4⟩:=hk;have HM:=Z' hm;clear C2 h h1 h2 hm;have CC:∀w',Below w.heap.size w w'->Calls prog 26 #[.slice (some ⟨b,off,none⟩) n cap,.int .i64 (kAt L k).a] w' (uK L (kAt L k).a w'):=fun w' hb=>rV w' _ n cap L _ (HS.out.below hb) hn
  have TA:∀w',Below w.heap.size w w'->Calls prog 63 #[.slice (some ⟨b,off,none⟩) n cap,.int .i64 (kAt L m).a] w' (uJ L (kAt L m).a w'):=fun w' hb=>qK w' _ n cap L _ (HS.out.below hb) hn
  have TB:∀w',Below w.heap.size w w'->Calls prog 63 #[.slice (some ⟨b,off,none⟩) n cap,.int .i64 (kAt L m).b] w' (uJ L (kAt L m).b w'):=fun w' hb=>qK w' _ n cap L _ (HS.out.below hb) hn
  unfold uK at CC;unfold uJ at TA TB;have ZE:=Z' CC;have RF:=Z' TA;have Rp:=Z' TB;have fin:∀(W:World),Below w.heap.size w W->Below w.heap.size w W:=fun _ h=>h
  clear CC TA TB fin
  have HR:=Z9 (∀W,Below w.heap.size w W->(yQ L (kAt L k).a).2=true->isT L (kAt L m).a 1=true->isT L (kAt L m).b 1=true->wu L k t w (.returned (.tuple #[.string ⟨(yQ L (kAt L k).a).1.toArray⟩,.string ⟨(yN L (kAt L m).a).toArray⟩,.string ⟨(yN L (kAt L m).b).toArray⟩,.bool true])) W) (
   fun W hW c1 c2 c3=>by
    have:=wu.yes (L:=L) (i:=k) (t:=t) (w:=w) (w':=W) ⟨H9.out,HH.out,HI.out,c1,by rw[HM.out];exact c2,by rw[HM.out];exact c3⟩ hW;rw[HM.out]at this;exact this)
  have HN:=Z9 (∀W,Below w.heap.size w W->((yQ L (kAt L k).a).2=false\/isT L (kAt L m).a 1=false\/isT L (kAt L m).b 1=false)->wu L k t w (.returned (.tuple #[.string ⟨#[]⟩,.string ⟨#[]⟩,.string ⟨#[]⟩,.bool false])) W) (
   fun W hW hx=>by
    refine wu.no (fun x=> ?_) hW;rw[HM.out]at x
    rcases hx with hx|hx|hx<;>simp[hx]at x)
  generalize(yQ L (kAt L k).a).1=s1 at*;generalize(yQ L (kAt L k).a).2=o1 at*;generalize isT L (kAt L m).a 1=o2 at*;generalize isT L (kAt L m).b 1=o3 at*;generalize yN L (kAt L m).a=s2 at*;generalize yN L (kAt L m).b=s3 at*;have KF:=Z' (Below.refl w.heap.size w)
  rcases tw with⟨rfl,_⟩|⟨rfl,_⟩
  all_goals
   go_enter func154,ntmps154
   go_wp2_with fail
   refine K1.out.mono ?_;rintro e w' ⟨rfl,rfl⟩
   go_wp2_with fail
   refine K2.out.mono ?_;rintro e w' ⟨rfl,rfl⟩
   go_wp2_with fail
   refine(ZE.out _ (Z6.alloc Z5 _)).mono ?_;rintro e w' ⟨rfl,rfl⟩
   go_wp2_with fail
   refine(RF.out _ (Z6.alloc Z5 _)).mono ?_;rintro e w' ⟨rfl,rfl⟩
   go_wp2_with fail
   refine(Rp.out _ (Z6.alloc Z5 _)).mono ?_;rintro e w' ⟨rfl,rfl⟩
   cases o1
   ·go_wp2_with fail
    exact bodyPost_ret (v:= .tuple #[.string ⟨#[]⟩,.string ⟨#[]⟩,.string ⟨#[]⟩,.bool false]) (by simp[results,results154,go_sem]) rfl (HN.out _ (Z6.alloc Z5 _) (by simp))
   ·cases o2
    ·go_wp2_with fail
     exact bodyPost_ret (v:= .tuple #[.string ⟨#[]⟩,.string ⟨#[]⟩,.string ⟨#[]⟩,.bool false]) (by simp[results,results154,go_sem]) rfl (HN.out _ (Z6.alloc Z5 _) (by simp))
    cases o3
    ·go_wp2_with fail
     exact bodyPost_ret (v:= .tuple #[.string ⟨#[]⟩,.string ⟨#[]⟩,.string ⟨#[]⟩,.bool false]) (by simp[results,results154,go_sem]) rfl (HN.out _ (Z6.alloc Z5 _) (by simp))
    go_wp2_with fail
    exact bodyPost_ret (v:= .tuple #[.string ⟨s1.toArray⟩,.string ⟨s2.toArray⟩,.string ⟨s3.toArray⟩,.bool true]) (by simp[results,results154,go_sem]) rfl (HR.out _ (Z6.alloc Z5 _) (by simp) (by simp) (by simp))
 have HH:=Z' h9;have e1:(t !=9)=true:=by simp;omega
 have e2:(t !=10)=true:=by simp;omega
 clear hs h9;go_enter func154,ntmps154
 go_wp2_with fail
 exact bodyPost_ret (v:= .tuple #[.string ⟨#[]⟩,.string ⟨#[]⟩,.string ⟨#[]⟩,.bool false]) (by simp[results,results154,go_sem]) rfl (wu.no (fun x=>HH.out x.1) Z6)
def wk(c:KV):KV:=
 ⟨c.tag,if c.tag=9\/c.tag=10\/c.tag=12\/c.tag=7\/c.tag=8 then c.a else 0,if c.tag=9\/c.tag=10\/c.tag=12 then c.b else 0,if c.tag=3 then wrap32 c.n else if c.tag=5 then c.n else 0,if c.tag=1 then c.s else []⟩
def kV(c:KV):Value:= .agg #[.int .i64 c.tag,.int .i64 c.a,.int .i64 c.b,.int .i64 c.n,.string ⟨c.s.toArray⟩]
theorem tf:(prog.info? 61).map (·.size)=some 5:=by kernel_rfl
theorem sL(w:World)(A B C:Obj):(((w.alloc A).alloc B).alloc C).heap[w.heap.size+1]? =some B:=by
 rw[Below.heap_alloc _ _ _ (by simp)];have:=heap_alloc_last (w.alloc A) B;simpa using this
theorem sX(w:World)(A B C:Obj):Below w.heap.size w (((w.alloc A).alloc B).alloc C):=((Z6.alloc Z5 _).alloc (by simp) _).alloc (by simp;omega) _
theorem E5e(w:World)(t a b n:Int)(s:List UInt8):Calls prog 87 #[kV ⟨1,a,b,n,s⟩] w fun e w'=>e= .returned (kV (wk ⟨1,a,b,n,s⟩))/\Below w.heap.size w w':=by
 unfold kV;go_enter func87,ntmps87
 go_wp2_with fail
 unfold wk;simp only[reduceCtorEq,if_true,if_false,or_true,true_or,or_false,false_or,Int.reduceEq,or_self];exact bodyPost_ret (results_cell_row rfl _ _ (w.heap.size+1) _ _ _ _ rfl (sL _ _ _ _) underlying61 rfl tf) rfl ⟨rfl,sX _ _ _ _⟩
theorem E5q(w:World)(t a b n:Int)(s:List UInt8):Calls prog 87 #[kV ⟨3,a,b,n,s⟩] w fun e w'=>e= .returned (kV (wk ⟨3,a,b,n,s⟩))/\Below w.heap.size w w':=by
 unfold kV;go_enter func87,ntmps87
 go_wp2_with fail
 unfold wk;simp only[reduceCtorEq,if_true,if_false,or_true,true_or,or_false,false_or,Int.reduceEq,or_self];have hw:wrap64 (wrap32 n)=wrap32 n:=by unfold wrap64 wrap32;omega
 rw[hw];exact bodyPost_ret (results_cell_row rfl _ _ (w.heap.size+1) _ _ _ _ rfl (sL _ _ _ _) underlying61 rfl tf) rfl ⟨rfl,sX _ _ _ _⟩
theorem E7f(w:World)(t a b n:Int)(s:List UInt8):Calls prog 87 #[kV ⟨5,a,b,n,s⟩] w fun e w'=>e= .returned (kV (wk ⟨5,a,b,n,s⟩))/\Below w.heap.size w w':=by
 unfold kV;go_enter func87,ntmps87
 go_wp2_with fail
 unfold wk;simp only[reduceCtorEq,if_true,if_false,or_true,true_or,or_false,false_or,Int.reduceEq,or_self];exact bodyPost_ret (results_cell_row rfl _ _ (w.heap.size+1) _ _ _ _ rfl (sL _ _ _ _) underlying61 rfl tf) rfl ⟨rfl,sX _ _ _ _⟩
theorem E5x(w:World)(t a b n:Int)(s:List UInt8):Calls prog 87 #[kV ⟨9,a,b,n,s⟩] w fun e w'=>e= .returned (kV (wk ⟨9,a,b,n,s⟩))/\Below w.heap.size w w':=by
 unfold kV;go_enter func87,ntmps87
 go_wp2_with fail
 unfold wk;simp only[reduceCtorEq,if_true,if_false,or_true,true_or,or_false,false_or,Int.reduceEq,or_self];exact bodyPost_ret (results_cell_row rfl _ _ (w.heap.size+1) _ _ _ _ rfl (sL _ _ _ _) underlying61 rfl tf) rfl ⟨rfl,sX _ _ _ _⟩
theorem E2c(w:World)(t a b n:Int)(s:List UInt8):Calls prog 87 #[kV ⟨10,a,b,n,s⟩] w fun e w'=>e= .returned (kV (wk ⟨10,a,b,n,s⟩))/\Below w.heap.size w w':=by
 unfold kV;go_enter func87,ntmps87
 go_wp2_with fail
 unfold wk;simp only[reduceCtorEq,if_true,if_false,or_true,true_or,or_false,false_or,Int.reduceEq,or_self];exact bodyPost_ret (results_cell_row rfl _ _ (w.heap.size+1) _ _ _ _ rfl (sL _ _ _ _) underlying61 rfl tf) rfl ⟨rfl,sX _ _ _ _⟩
theorem E4h(w:World)(t a b n:Int)(s:List UInt8):Calls prog 87 #[kV ⟨12,a,b,n,s⟩] w fun e w'=>e= .returned (kV (wk ⟨12,a,b,n,s⟩))/\Below w.heap.size w w':=by
 unfold kV;go_enter func87,ntmps87
 go_wp2_with fail
 unfold wk;simp only[reduceCtorEq,if_true,if_false,or_true,true_or,or_false,false_or,Int.reduceEq,or_self];exact bodyPost_ret (results_cell_row rfl _ _ (w.heap.size+1) _ _ _ _ rfl (sL _ _ _ _) underlying61 rfl tf) rfl ⟨rfl,sX _ _ _ _⟩
theorem E6a(w:World)(t a b n:Int)(s:List UInt8):Calls prog 87 #[kV ⟨7,a,b,n,s⟩] w fun e w'=>e= .returned (kV (wk ⟨7,a,b,n,s⟩))/\Below w.heap.size w w':=by
 unfold kV;go_enter func87,ntmps87
 go_wp2_with fail
 unfold wk;simp only[reduceCtorEq,if_true,if_false,or_true,true_or,or_false,false_or,Int.reduceEq,or_self];exact bodyPost_ret (results_cell_row rfl _ _ (w.heap.size+1) _ _ _ _ rfl (sL _ _ _ _) underlying61 rfl tf) rfl ⟨rfl,sX _ _ _ _⟩
theorem E5i(w:World)(t a b n:Int)(s:List UInt8):Calls prog 87 #[kV ⟨8,a,b,n,s⟩] w fun e w'=>e= .returned (kV (wk ⟨8,a,b,n,s⟩))/\Below w.heap.size w w':=by
 unfold kV;go_enter func87,ntmps87
 go_wp2_with fail
 unfold wk;simp only[reduceCtorEq,if_true,if_false,or_true,true_or,or_false,false_or,Int.reduceEq,or_self];exact bodyPost_ret (results_cell_row rfl _ _ (w.heap.size+1) _ _ _ _ rfl (sL _ _ _ _) underlying61 rfl tf) rfl ⟨rfl,sX _ _ _ _⟩
theorem D4t(w:World)(t a b n:Int)(s:List UInt8)(h:t≠1/\t≠3/\t≠5/\t≠9/\t≠10/\t≠12/\t≠7/\t≠8):Calls prog 87 #[kV ⟨t,a,b,n,s⟩] w fun e w'=>e= .returned (kV (wk ⟨t,a,b,n,s⟩))/\Below w.heap.size w w':=by
 unfold kV;obtain⟨h1,h3,h5,h9,X1,VD,h7,h8⟩:=h;have HB:=Z' (show wk ⟨t,a,b,n,s⟩=⟨t,0,0,0,[]⟩ by unfold wk;simp[h1,h3,h5,h9,X1,VD,h7,h8]);have e1:(t==1)=false:=by simp[h1]
 have e3:(t==3)=false:=by simp[h3]
 have e5:(t==5)=false:=by simp[h5]
 have e9:(t==9)=false:=by simp[h9]
 have MY:(t==10)=false:=by simp[X1]
 have BU:(t==12)=false:=by simp[VD]
 have e7:(t==7)=false:=by simp[h7]
 have e8:(t==8)=false:=by simp[h8]
 clear h1 h3 h5 h9 X1 VD h7 h8;go_enter func87,ntmps87
 go_wp2_with fail
 rw[HB.out];exact bodyPost_ret (results_cell_row rfl _ _ (w.heap.size+1) _ _ _ _ rfl (sL _ _ _ _) underlying61 rfl tf) rfl ⟨rfl,sX _ _ _ _⟩
theorem E0b(w:World)(c:KV):Calls prog 87 #[kV c] w fun e w'=>e= .returned (kV (wk c))/\Below w.heap.size w w':=by
 obtain⟨t,a,b,n,s⟩:=c;by_cases h1:t=1
 ·subst h1;exact E5e w 0 a b n s
 by_cases h3:t=3
 ·subst h3;exact E5q w 0 a b n s
 by_cases h5:t=5
 ·subst h5;exact E7f w 0 a b n s
 by_cases h9:t=9
 ·subst h9;exact E5x w 0 a b n s
 by_cases X1:t=10
 ·subst X1;exact E2c w 0 a b n s
 by_cases VD:t=12
 ·subst VD;exact E4h w 0 a b n s
 by_cases h7:t=7
 ·subst h7;exact E6a w 0 a b n s
 by_cases h8:t=8
 ·subst h8;exact E5i w 0 a b n s
 exact D4t w t a b n s ⟨h1,h3,h5,h9,X1,VD,h7,h8⟩
def yS(r:Bool)(w:World)(e:Ending)(w':World):Prop:=e= .returned (.bool r)/\Below w.heap.size w w'
theorem yV(w:World)(A:Obj):Below w.heap.size w (w.alloc A):=Z6.alloc Z5 _
theorem E5r(w:World)(a:Option Addr)(n cap:Nat)(L:List KV)(i:Nat)(hs:Ks w a n L)(hn:n<=65536)(hi:i<n)(ht:(kAt L i).tag=0):Calls prog 88 #[.slice a n cap,.int .i64 i] w (yS (yn L i) w):=by
 obtain⟨b,off,rfl,Zu,hk⟩:=hs.at i hi;obtain⟨q0,q1,q2,q3,q4⟩:=hk;rw[ht]at q0;by_cases h0:i=0
 ·subst h0;have NF:(kAt L 0).tag=0:=ht;rw[show yn L 0=true from by unfold yn;simp[NF]];simp only[Nat.zero_mul,Nat.add_zero]at q0 q1 q2 q3 q4;clear hs ht NF;go_enter func88,ntmps88
  go_wp2_with fail
  go_ret;exact⟨rfl,yV _ _⟩
 obtain⟨b',off',he,_,hk⟩:=hs.at (i-1) (by omega)
 cases he
 have p0:=hk.c0;have Rj:((i-1:Nat):Int)=(i:Int) -1:=by omega
 rw[show off+(i-1)*5=off+(i-1)*5 from rfl]at p0;have e0:((i:Int)==0)=false:=by simp;omega
 have i1:(1:Int)<=i:=by omega
 have i2:((i:Int) -1).toNat=i-1:=by omega
 have i3:(i:Int) -1<n:=by omega
 rw[show yn L i=decide ((kAt L ((i:Int) -1)).tag=5)from by unfold yn;simp[ht,h0],<-Rj];generalize(kAt L ((i-1:Nat):Int)).tag=t1 at*;clear hs ht hk Rj h0;generalize(kAt L i).a=ca at*;generalize(kAt L i).b=cb at*;generalize(kAt L i).n=cn at*;generalize(kAt L i).s=cs at*;by_cases h5:t1=5
 ·subst h5;go_enter func88,ntmps88
  go_wp2_with fail
  go_ret;exact⟨rfl,yV _ _⟩
 have e5:(t1==5)=false:=by simp[h5]
 rw[decide_eq_false h5];clear h5;go_enter func88,ntmps88
 go_wp2_with fail
 go_ret;exact⟨rfl,yV _ _⟩
theorem E5m(w:World)(a:Option Addr)(n cap:Nat)(L:List KV)(i:Nat)(hs:Ks w a n L)(hn:n<=65536)(hi:i<n)(ht:(kAt L i).tag=1)(hl:(kAt L i).s.length<=65536):Calls prog 88 #[.slice a n cap,.int .i64 i] w (yS (yn L i) w):=by
 obtain⟨b,off,rfl,Zu,hk⟩:=hs.at i hi;obtain⟨q0,q1,q2,q3,q4⟩:=hk;rw[ht]at q0;obtain⟨r,XV⟩:=Z8 (yn L i);rw[<-XV];have ZS:=Z9 (r=((wn (kAt L i).s).isSome&&decide ((kAt L i).s.length<=65535))) (by rw[XV];unfold yn;simp[ht]);clear XV;generalize(kAt L i).a=ca at*;generalize(kAt L i).b=cb at*;generalize(kAt L i).n=cn at*;generalize(kAt L i).s=cs at*;obtain⟨c,w1,hr,Yd,Y5,ZQ,Wi⟩:=mW (w.alloc (.cells #[.int .i64 1,.int .i64 ca,.int .i64 cb,.int .i64 cn,.string ⟨cs.toArray⟩] 61)) cs;have hz:(w.alloc (.cells #[.int .i64 1,.int .i64 ca,.int .i64 cb,.int .i64 cn,.string ⟨cs.toArray⟩] 61)).heap.size=w.heap.size+1:=by simp
 rw[hz]at hr Yd;clear hz;have CL:=E3c w1 _ cs.length c cs Yd hl Y5;have ZM:=Z9 (Below w.heap.size w w1) ((yV _ _).trans (ZQ.mono (by simp)));have Za:=Z' (yF ZQ (cell_of_row (w.alloc (.cells #[.int .i64 1,.int .i64 ca,.int .i64 cb,.int .i64 cn,.string ⟨cs.toArray⟩] 61)) w.heap.size 4 _ _ _ (heap_alloc_last w _)));have HL:=Z' CL;clear CL hs Yd Y5 ZQ ht Wi;go_enter func88,ntmps88
 go_wp2_with fail
 refine HL.out.mono ?_;rintro e w2 ⟨rfl,ZN⟩;have ZT:=Z7 ZM ZN;have c4:w2.cell? ⟨w.heap.size,4,none⟩=some (.string ⟨cs.toArray⟩):=yF ZN Za.out;clear ZN hr
 cases hd:wn cs with
 |none=>
  rw[hd]at ZS;simp only[nB];clear hd
  go_wp2_with fail
  go_ret;exact⟨by rw[ZS.out];rfl,ZT.out⟩
 |some us=>
 rw[hd]at ZS;simp only[nB];clear hd;by_cases h6:cs.length<=65535
 ·have h7:decide ((cs.length:Int)<=65535)=true:=by simp;omega
  have H6:=Z' (show r=true by rw[ZS.out,decide_eq_true h6];rfl)
  go_wp2_with fail
  go_ret;exact⟨by rw[H6.out];rfl,ZT.out⟩
 have h7:decide ((cs.length:Int)<=65535)=false:=by simp;omega
 have H6:=Z' (show r=false by rw[ZS.out,decide_eq_false h6];rfl)
 go_wp2_with fail
 go_ret;exact⟨by rw[H6.out];rfl,ZT.out⟩
theorem E7k(w:World)(a:Option Addr)(n cap:Nat)(L:List KV)(i:Nat)(hs:Ks w a n L)(hn:n<=65536)(hi:i<n)(ht:(kAt L i).tag=3):Calls prog 88 #[.slice a n cap,.int .i64 i] w (yS (yn L i) w):=by
 obtain⟨b,off,rfl,Zu,hk⟩:=hs.at i hi;obtain⟨q0,q1,q2,q3,q4⟩:=hk;rw[ht]at q0;rw[show yn L i=true from by unfold yn;simp[ht]];clear hs ht;generalize(kAt L i).a=ca at*;generalize(kAt L i).b=cb at*;generalize(kAt L i).n=cn at*;generalize(kAt L i).s=cs at*;go_enter func88,ntmps88
 go_wp2_with fail
 go_ret;exact⟨rfl,yV _ _⟩
theorem E5n(w:World)(a:Option Addr)(n cap:Nat)(L:List KV)(i:Nat)(hs:Ks w a n L)(hn:n<=65536)(hi:i<n)(ht:(kAt L i).tag=5):Calls prog 88 #[.slice a n cap,.int .i64 i] w (yS (yn L i) w):=by
 obtain⟨b,off,rfl,Zu,hk⟩:=hs.at i hi;obtain⟨q0,q1,q2,q3,q4⟩:=hk;rw[ht]at q0;rw[show yn L i=(decide (i+1<n)&&decide ((kAt L ((i:Int)+1)).tag=0))from by unfold yn;simp[ht,hs.1]];by_cases h1:i+1<n
 ·obtain⟨b',off',he,_,hk⟩:=hs.at (i+1) h1
  cases he
  have p0:=hk.c0;have Rj:((i+1:Nat):Int)=(i:Int)+1:=by omega
  rw[<-Rj,decide_eq_true h1,Bool.true_and];have e1:decide ((i:Int)+1<n)=true:=by simp;omega
  have i3:(i:Int)+1<n:=by omega
  generalize(kAt L ((i+1:Nat):Int)).tag=t1 at*;clear hs ht hk Rj;generalize(kAt L i).a=ca at*;generalize(kAt L i).b=cb at*;generalize(kAt L i).n=cn at*;generalize(kAt L i).s=cs at*;by_cases h5:t1=0
  ·subst h5;go_enter func88,ntmps88
   go_wp2_with fail
   go_ret;exact⟨rfl,yV _ _⟩
  have e5:(t1==0)=false:=by simp[h5]
  rw[decide_eq_false h5];clear h5;go_enter func88,ntmps88
  go_wp2_with fail
  go_ret;exact⟨rfl,yV _ _⟩
 rw[decide_eq_false h1,Bool.false_and];have e1:decide ((i:Int)+1<n)=false:=by simp;omega
 clear hs ht;generalize(kAt L i).a=ca at*;generalize(kAt L i).b=cb at*;generalize(kAt L i).n=cn at*;generalize(kAt L i).s=cs at*;go_enter func88,ntmps88
 go_wp2_with fail
 go_ret;exact⟨rfl,yV _ _⟩
theorem E1t(w:World)(a:Option Addr)(n cap:Nat)(L:List KV)(i:Nat)(hs:Ks w a n L)(hn:n<=65536)(hi:i<n)(ht:(kAt L i).tag=12):Calls prog 88 #[.slice a n cap,.int .i64 i] w (yS (yn L i) w):=by
 obtain⟨b,off,rfl,Zu,hk⟩:=hs.at i hi;obtain⟨q0,q1,q2,q3,q4⟩:=hk;rw[ht]at q0;rw[show yn L i=(isT L (kAt L i).a 1&&isT L (kAt L i).b 1)from by unfold yn;simp[ht]];have C1:=Z' (tS (w.alloc (.cells #[.int .i64 12,.int .i64 (kAt L i).a,.int .i64 (kAt L i).b,.int .i64 (kAt L i).n,.string ⟨(kAt L i).s.toArray⟩] 61)) _ n cap L (kAt L i).a 1 (hs.below (yV _ _)) hn);have C2:=Z' (tS (w.alloc (.cells #[.int .i64 12,.int .i64 (kAt L i).a,.int .i64 (kAt L i).b,.int .i64 (kAt L i).n,.string ⟨(kAt L i).s.toArray⟩] 61)) _ n cap L (kAt L i).b 1 (hs.below (yV _ _)) hn);generalize isT L (kAt L i).a 1=r1 at*;generalize isT L (kAt L i).b 1=r2 at*;clear hs ht;generalize(kAt L i).a=ca at*;generalize(kAt L i).b=cb at*;generalize(kAt L i).n=cn at*;generalize(kAt L i).s=cs at*
 cases r1
 ·go_enter func88,ntmps88
  go_wp2_with fail
  refine C1.out.mono ?_;rintro e w' ⟨rfl,rfl⟩
  go_wp2_with fail
  go_ret;exact⟨rfl,yV _ _⟩
 go_enter func88,ntmps88
 go_wp2_with fail
 refine C1.out.mono ?_;rintro e w' ⟨rfl,rfl⟩
 go_wp2_with fail
 refine C2.out.mono ?_;rintro e w' ⟨rfl,rfl⟩
 go_wp2_with fail
 go_ret;exact⟨rfl,yV _ _⟩
theorem E5h(w:World)(a:Option Addr)(n cap:Nat)(L:List KV)(i:Nat)(hs:Ks w a n L)(hn:n<=65536)(hi:i<n)(ht:(kAt L i).tag=7):Calls prog 88 #[.slice a n cap,.int .i64 i] w (yS (yn L i) w):=by
 obtain⟨b,off,rfl,Zu,hk⟩:=hs.at i hi;obtain⟨q0,q1,q2,q3,q4⟩:=hk;rw[ht]at q0;rw[show yn L i=isT L (kAt L i).a 1 from by unfold yn;simp[ht]];have C1:=Z' (tS (w.alloc (.cells #[.int .i64 7,.int .i64 (kAt L i).a,.int .i64 (kAt L i).b,.int .i64 (kAt L i).n,.string ⟨(kAt L i).s.toArray⟩] 61)) _ n cap L (kAt L i).a 1 (hs.below (yV _ _)) hn);generalize isT L (kAt L i).a 1=r1 at*;clear hs ht;generalize(kAt L i).a=ca at*;generalize(kAt L i).b=cb at*;generalize(kAt L i).n=cn at*;generalize(kAt L i).s=cs at*;go_enter func88,ntmps88
 go_wp2_with fail
 refine C1.out.mono ?_;rintro e w' ⟨rfl,rfl⟩
 go_wp2_with fail
 go_ret;exact⟨rfl,yV _ _⟩
theorem E6h(w:World)(a:Option Addr)(n cap:Nat)(L:List KV)(i:Nat)(hs:Ks w a n L)(hn:n<=65536)(hi:i<n)(ht:(kAt L i).tag=8):Calls prog 88 #[.slice a n cap,.int .i64 i] w (yS (yn L i) w):=by
 obtain⟨b,off,rfl,Zu,hk⟩:=hs.at i hi;obtain⟨q0,q1,q2,q3,q4⟩:=hk;rw[ht]at q0;rw[show yn L i=isT L (kAt L i).a 1 from by unfold yn;simp[ht]];have C1:=Z' (tS (w.alloc (.cells #[.int .i64 8,.int .i64 (kAt L i).a,.int .i64 (kAt L i).b,.int .i64 (kAt L i).n,.string ⟨(kAt L i).s.toArray⟩] 61)) _ n cap L (kAt L i).a 1 (hs.below (yV _ _)) hn);generalize isT L (kAt L i).a 1=r1 at*;clear hs ht;generalize(kAt L i).a=ca at*;generalize(kAt L i).b=cb at*;generalize(kAt L i).n=cn at*;generalize(kAt L i).s=cs at*;go_enter func88,ntmps88
 go_wp2_with fail
 refine C1.out.mono ?_;rintro e w' ⟨rfl,rfl⟩
 go_wp2_with fail
 go_ret;exact⟨rfl,yV _ _⟩
theorem E6t(w:World)(a:Option Addr)(n cap:Nat)(L:List KV)(i:Nat)(hs:Ks w a n L)(hn:n<=65536)(hi:i<n)(ht:(kAt L i).tag=9):Calls prog 88 #[.slice a n cap,.int .i64 i] w (yS (yn L i) w):=by
 obtain⟨b,off,rfl,Zu,hk⟩:=hs.at i hi;obtain⟨q0,q1,q2,q3,q4⟩:=hk;rw[ht]at q0;rw[show yn L i=(isT L (kAt L i).a 7&&isT L (kAt L i).b 12)from by unfold yn;simp[ht]];have C1:=Z' (tS (w.alloc (.cells #[.int .i64 9,.int .i64 (kAt L i).a,.int .i64 (kAt L i).b,.int .i64 (kAt L i).n,.string ⟨(kAt L i).s.toArray⟩] 61)) _ n cap L (kAt L i).a 7 (hs.below (yV _ _)) hn);have C2:=Z' (tS (w.alloc (.cells #[.int .i64 9,.int .i64 (kAt L i).a,.int .i64 (kAt L i).b,.int .i64 (kAt L i).n,.string ⟨(kAt L i).s.toArray⟩] 61)) _ n cap L (kAt L i).b 12 (hs.below (yV _ _)) hn);generalize isT L (kAt L i).a 7=r1 at*;generalize isT L (kAt L i).b 12=r2 at*;clear hs ht;generalize(kAt L i).a=ca at*;generalize(kAt L i).b=cb at*;generalize(kAt L i).n=cn at*;generalize(kAt L i).s=cs at*
 cases r1
 ·go_enter func88,ntmps88
  go_wp2_with fail
  refine C1.out.mono ?_;rintro e w' ⟨rfl,rfl⟩
  go_wp2_with fail
  go_ret;exact⟨rfl,yV _ _⟩
 go_enter func88,ntmps88
 go_wp2_with fail
 refine C1.out.mono ?_;rintro e w' ⟨rfl,rfl⟩
 go_wp2_with fail
 refine C2.out.mono ?_;rintro e w' ⟨rfl,rfl⟩
 go_wp2_with fail
 go_ret;exact⟨rfl,yV _ _⟩
theorem E4f(w:World)(a:Option Addr)(n cap:Nat)(L:List KV)(i:Nat)(hs:Ks w a n L)(hn:n<=65536)(hi:i<n)(ht:(kAt L i).tag=10):Calls prog 88 #[.slice a n cap,.int .i64 i] w (yS (yn L i) w):=by
 obtain⟨b,off,rfl,Zu,hk⟩:=hs.at i hi;obtain⟨q0,q1,q2,q3,q4⟩:=hk;rw[ht]at q0;rw[show yn L i=(isT L (kAt L i).a 7&&isT L (kAt L i).b 12)from by unfold yn;simp[ht]];have C1:=Z' (tS (w.alloc (.cells #[.int .i64 10,.int .i64 (kAt L i).a,.int .i64 (kAt L i).b,.int .i64 (kAt L i).n,.string ⟨(kAt L i).s.toArray⟩] 61)) _ n cap L (kAt L i).a 7 (hs.below (yV _ _)) hn);have C2:=Z' (tS (w.alloc (.cells #[.int .i64 10,.int .i64 (kAt L i).a,.int .i64 (kAt L i).b,.int .i64 (kAt L i).n,.string ⟨(kAt L i).s.toArray⟩] 61)) _ n cap L (kAt L i).b 12 (hs.below (yV _ _)) hn);generalize isT L (kAt L i).a 7=r1 at*;generalize isT L (kAt L i).b 12=r2 at*;clear hs ht;generalize(kAt L i).a=ca at*;generalize(kAt L i).b=cb at*;generalize(kAt L i).n=cn at*;generalize(kAt L i).s=cs at*
 cases r1
 ·go_enter func88,ntmps88
  go_wp2_with fail
  refine C1.out.mono ?_;rintro e w' ⟨rfl,rfl⟩
  go_wp2_with fail
  go_ret;exact⟨rfl,yV _ _⟩
 go_enter func88,ntmps88
 go_wp2_with fail
 refine C1.out.mono ?_;rintro e w' ⟨rfl,rfl⟩
 go_wp2_with fail
 refine C2.out.mono ?_;rintro e w' ⟨rfl,rfl⟩
 go_wp2_with fail
 go_ret;exact⟨rfl,yV _ _⟩
theorem D2s(w:World)(a:Option Addr)(n cap:Nat)(L:List KV)(i:Nat)(hs:Ks w a n L)(hn:n<=65536)(hi:i<n)(h0:(kAt L i).tag≠0)(h1:(kAt L i).tag≠1)(h3:(kAt L i).tag≠3)(h5:(kAt L i).tag≠5)(VD:(kAt L i).tag≠12)(h7:(kAt L i).tag≠7)(h8:(kAt L i).tag≠8)(h9:(kAt L i).tag≠9)(X1:(kAt L i).tag≠10):Calls prog 88 #[.slice a n cap,.int .i64 i] w (yS (yn L i) w):=by
 obtain⟨b,off,rfl,Zu,hk⟩:=hs.at i hi;obtain⟨q0,q1,q2,q3,q4⟩:=hk;rw[show yn L i=false from by unfold yn;simp[h0,h1,h3,h5,VD,h7,h8,h9,X1]];clear hs;generalize(kAt L i).tag=t at*;generalize(kAt L i).a=ca at*;generalize(kAt L i).b=cb at*;generalize(kAt L i).n=cn at*;generalize(kAt L i).s=cs at*;have e0:(t==0)=false:=by simp[h0]
 have e1:(t==1)=false:=by simp[h1]
 have e3:(t==3)=false:=by simp[h3]
 have e5:(t==5)=false:=by simp[h5]
 have BU:(t==12)=false:=by simp[VD]
 have e7:(t==7)=false:=by simp[h7]
 have e8:(t==8)=false:=by simp[h8]
 have e9:(t==9)=false:=by simp[h9]
 have MY:(t==10)=false:=by simp[X1]
 clear h0 h1 h3 h5 VD h7 h8 h9 X1;go_enter func88,ntmps88
 go_wp2_with fail
 go_ret;exact⟨rfl,yV _ _⟩
theorem D5t(w:World)(a:Option Addr)(n cap:Nat)(L:List KV)(i:Nat)(hs:Ks w a n L)(hn:n<=65536)(hi:i<n)(hl:(kAt L i).s.length<=65536):Calls prog 88 #[.slice a n cap,.int .i64 i] w (yS (yn L i) w):=by
 by_cases h0:(kAt L i).tag=0
 ·exact E5r w a n cap L i hs hn hi h0
 by_cases h1:(kAt L i).tag=1
 ·exact E5m w a n cap L i hs hn hi h1 hl
 by_cases h3:(kAt L i).tag=3
 ·exact E7k w a n cap L i hs hn hi h3
 by_cases h5:(kAt L i).tag=5
 ·exact E5n w a n cap L i hs hn hi h5
 by_cases VD:(kAt L i).tag=12
 ·exact E1t w a n cap L i hs hn hi VD
 by_cases h7:(kAt L i).tag=7
 ·exact E5h w a n cap L i hs hn hi h7
 by_cases h8:(kAt L i).tag=8
 ·exact E6h w a n cap L i hs hn hi h8
 by_cases h9:(kAt L i).tag=9
 ·exact E6t w a n cap L i hs hn hi h9
 by_cases X1:(kAt L i).tag=10
 ·exact E4f w a n cap L i hs hn hi X1
 exact D2s w a n cap L i hs hn hi h0 h1 h3 h5 VD h7 h8 h9 X1
end
end Go.Proofs.YtclpkipaehpkdaaGreatDoor
