/- asm -/
import Derived.Test.YtclpkipaehpkdaaGreatDoorQ03AsmMade
import Derived.Test.YtclpkipaehpkdaaGreatDoorQ02AsmMade
import Derived.Test.YtclpkipaehpkdaaGreatDoorQ04AsmMade
set_option linter.unusedVariables false
set_option linter.unusedSimpArgs false
set_option maxRecDepth 100000
set_option maxHeartbeats 64000000
namespace Go.Proofs.YtclpkipaehpkdaaGreatDoor
section
open Go.ChangeShapes Go.WideShapes Go.ChangeAt Go.RowKit
def A4p(r:Bool)(w:World)(e:Ending)(w':World):Prop:=e= .returned (.bool r)/\Below w.heap.size w w'
theorem A0f(w:World)(A:Obj):Below w.heap.size w (w.alloc A):=brz.alloc nlz _
theorem E1f(w:World)(a:Option Addr)(n cap:Nat)(L:List KV)(i:Nat)(hs:Ks w a n L)(hn:n<=65536)(hi:i<n)(ht:(kAt L i).tag=0):Calls Tryz.prog 88 #[.slice a n cap,.int .i64 i] w (A4p (A2d L i) w):=by
 obtain⟨b,off,rfl,hbl,hk⟩:=hs.at i hi;obtain⟨q0,q1,q2,q3,q4⟩:=hk;rw[ht]at q0;by_cases h0:i=0
 ·subst h0;have ht':(kAt L 0).tag=0:=ht;rw[show A2d L 0=true from by unfold A2d;simp[ht']];simp only[Nat.zero_mul,Nat.add_zero]at q0 q1 q2 q3 q4;clear hs ht ht'
  go_enter Tryz.func88,Tryz.ntmps88
  go_wp2_with fail
  go_ret;exact⟨rfl,A0f _ _⟩
 obtain⟨b',off',he,_,hk⟩:=hs.at (i-1) (by omega)
 cases he
 have p0:=hk.c0;have hij:((i-1:Nat):Int)=(i:Int) -1:=by omega
 rw[show off+(i-1)*5=off+(i-1)*5 from rfl]at p0;have e0:((i:Int)==0)=false:=by simp;omega
 have i1:(1:Int)<=i:=by omega
 have i2:((i:Int) -1).toNat=i-1:=by omega
 have i3:(i:Int) -1<n:=by omega
 rw[show A2d L i=decide ((kAt L ((i:Int) -1)).tag=5)from by unfold A2d;simp[ht,h0],<-hij];generalize(kAt L ((i-1:Nat):Int)).tag=t1 at*;clear hs ht hk hij h0
 generalize(kAt L i).a=ca at*;generalize(kAt L i).b=cb at*;generalize(kAt L i).n=cn at*;generalize(kAt L i).s=cs at*;by_cases h5:t1=5
 ·subst h5;go_enter Tryz.func88,Tryz.ntmps88
  go_wp2_with fail
  go_ret;exact⟨rfl,A0f _ _⟩
 have e5:(t1==5)=false:=by simp[h5]
 rw[decide_eq_false h5];clear h5;go_enter Tryz.func88,Tryz.ntmps88
 go_wp2_with fail
 go_ret;exact⟨rfl,A0f _ _⟩
theorem E0r(w:World)(a:Option Addr)(n cap:Nat)(L:List KV)(i:Nat)(hs:Ks w a n L)(hn:n<=65536)(hi:i<n)(ht:(kAt L i).tag=1)(hl:(kAt L i).s.length<=65536):Calls Tryz.prog 88 #[.slice a n cap,.int .i64 i] w (A4p (A2d L i) w):=by
 obtain⟨b,off,rfl,hbl,hk⟩:=hs.at i hi;obtain⟨q0,q1,q2,q3,q4⟩:=hk;rw[ht]at q0;obtain⟨r,hrr⟩:=exz (A2d L i);rw[<-hrr]
 have HRR:=hzz (show r=((A4m (kAt L i).s).isSome&&decide ((kAt L i).s.length<=65535))from by rw[hrr];unfold A2d;simp[ht]);clear hrr;generalize(kAt L i).a=ca at*
 generalize(kAt L i).b=cb at*;generalize(kAt L i).n=cn at*;generalize(kAt L i).s=cs at*
 obtain⟨c,w1,hr,hs1,hc1,hb1,hz1⟩:=B5h (w.alloc (.cells #[.int .i64 1,.int .i64 ca,.int .i64 cb,.int .i64 cn,.string ⟨cs.toArray⟩] 61)) cs
 have hz:(w.alloc (.cells #[.int .i64 1,.int .i64 ca,.int .i64 cb,.int .i64 cn,.string ⟨cs.toArray⟩] 61)).heap.size=w.heap.size+1:=by simp
 rw[hz]at hr hs1;clear hz;have CL:=D7r w1 _ cs.length c cs hs1 hl hc1;have HB1:=hzz (show Below w.heap.size w w1 from(A0f _ _).trans (hb1.mono (by simp)))
 have HK1:=hzz (A0c hb1 (cell_of_row (w.alloc (.cells #[.int .i64 1,.int .i64 ca,.int .i64 cb,.int .i64 cn,.string ⟨cs.toArray⟩] 61)) w.heap.size 4 _ _ _ (heap_alloc_last w _)));have HL:=hzz CL
 clear CL hs hs1 hc1 hb1 ht hz1;go_enter Tryz.func88,Tryz.ntmps88
 go_wp2_with fail
 refine HL.out.mono ?_;rintro e w2 ⟨rfl,hb2⟩;have HB2:=btz HB1 hb2;have c4:w2.cell? ⟨w.heap.size,4,none⟩=some (.string ⟨cs.toArray⟩):=A0c hb2 HK1.out;clear hb2 hr
 cases hd:A4m cs with
 |none=>
  rw[hd]at HRR;simp only[D4e];clear hd
  go_wp2_with fail
  go_ret;exact⟨by rw[HRR.out];rfl,HB2.out⟩
 |some us=>
 rw[hd]at HRR;simp only[D4e];clear hd;by_cases h6:cs.length<=65535
 ·have h7:decide ((cs.length:Int)<=65535)=true:=by simp;omega
  have H6:=hzz (show r=true by rw[HRR.out,decide_eq_true h6];rfl)
  go_wp2_with fail
  go_ret;exact⟨by rw[H6.out];rfl,HB2.out⟩
 have h7:decide ((cs.length:Int)<=65535)=false:=by simp;omega
 have H6:=hzz (show r=false by rw[HRR.out,decide_eq_false h6];rfl)
 go_wp2_with fail
 go_ret;exact⟨by rw[H6.out];rfl,HB2.out⟩
theorem D9m(w:World)(a:Option Addr)(n cap:Nat)(L:List KV)(i:Nat)(hs:Ks w a n L)(hn:n<=65536)(hi:i<n)(ht:(kAt L i).tag=3):Calls Tryz.prog 88 #[.slice a n cap,.int .i64 i] w (A4p (A2d L i) w):=by
 obtain⟨b,off,rfl,hbl,hk⟩:=hs.at i hi;obtain⟨q0,q1,q2,q3,q4⟩:=hk;rw[ht]at q0;rw[show A2d L i=true from by unfold A2d;simp[ht]];clear hs ht;generalize(kAt L i).a=ca at*
 generalize(kAt L i).b=cb at*;generalize(kAt L i).n=cn at*;generalize(kAt L i).s=cs at*;go_enter Tryz.func88,Tryz.ntmps88
 go_wp2_with fail
 go_ret;exact⟨rfl,A0f _ _⟩
theorem D9k(w:World)(a:Option Addr)(n cap:Nat)(L:List KV)(i:Nat)(hs:Ks w a n L)(hn:n<=65536)(hi:i<n)(ht:(kAt L i).tag=5):Calls Tryz.prog 88 #[.slice a n cap,.int .i64 i] w (A4p (A2d L i) w):=by
 obtain⟨b,off,rfl,hbl,hk⟩:=hs.at i hi;obtain⟨q0,q1,q2,q3,q4⟩:=hk;rw[ht]at q0
 rw[show A2d L i=(decide (i+1<n)&&decide ((kAt L ((i:Int)+1)).tag=0))from by unfold A2d;simp[ht,hs.1]];by_cases h1:i+1<n
 ·obtain⟨b',off',he,_,hk⟩:=hs.at (i+1) h1
  cases he
  have p0:=hk.c0;have hij:((i+1:Nat):Int)=(i:Int)+1:=by omega
  rw[<-hij,decide_eq_true h1,Bool.true_and];have e1:decide ((i:Int)+1<n)=true:=by simp;omega
  have i3:(i:Int)+1<n:=by omega
  generalize(kAt L ((i+1:Nat):Int)).tag=t1 at*;clear hs ht hk hij;generalize(kAt L i).a=ca at*;generalize(kAt L i).b=cb at*;generalize(kAt L i).n=cn at*;generalize(kAt L i).s=cs at*
  by_cases h5:t1=0
  ·subst h5;go_enter Tryz.func88,Tryz.ntmps88
   go_wp2_with fail
   go_ret;exact⟨rfl,A0f _ _⟩
  have e5:(t1==0)=false:=by simp[h5]
  rw[decide_eq_false h5];clear h5;go_enter Tryz.func88,Tryz.ntmps88
  go_wp2_with fail
  go_ret;exact⟨rfl,A0f _ _⟩
 rw[decide_eq_false h1,Bool.false_and];have e1:decide ((i:Int)+1<n)=false:=by simp;omega
 clear hs ht;generalize(kAt L i).a=ca at*;generalize(kAt L i).b=cb at*;generalize(kAt L i).n=cn at*;generalize(kAt L i).s=cs at*;go_enter Tryz.func88,Tryz.ntmps88
 go_wp2_with fail
 go_ret;exact⟨rfl,A0f _ _⟩
theorem D5i(w:World)(a:Option Addr)(n cap:Nat)(L:List KV)(i:Nat)(hs:Ks w a n L)(hn:n<=65536)(hi:i<n)(ht:(kAt L i).tag=12):Calls Tryz.prog 88 #[.slice a n cap,.int .i64 i] w (A4p (A2d L i) w):=by
 obtain⟨b,off,rfl,hbl,hk⟩:=hs.at i hi;obtain⟨q0,q1,q2,q3,q4⟩:=hk;rw[ht]at q0;rw[show A2d L i=(isT L (kAt L i).a 1&&isT L (kAt L i).b 1)from by unfold A2d;simp[ht]]
 have C1:=hzz (A8t (w.alloc (.cells #[.int .i64 12,.int .i64 (kAt L i).a,.int .i64 (kAt L i).b,.int .i64 (kAt L i).n,.string ⟨(kAt L i).s.toArray⟩] 61)) _ n cap L (kAt L i).a 1 (hs.below (A0f _ _)) hn)
 have C2:=hzz (A8t (w.alloc (.cells #[.int .i64 12,.int .i64 (kAt L i).a,.int .i64 (kAt L i).b,.int .i64 (kAt L i).n,.string ⟨(kAt L i).s.toArray⟩] 61)) _ n cap L (kAt L i).b 1 (hs.below (A0f _ _)) hn)
 generalize isT L (kAt L i).a 1=r1 at*;generalize isT L (kAt L i).b 1=r2 at*;clear hs ht;generalize(kAt L i).a=ca at*;generalize(kAt L i).b=cb at*;generalize(kAt L i).n=cn at*
 generalize(kAt L i).s=cs at*
 cases r1
 ·go_enter Tryz.func88,Tryz.ntmps88
  go_wp2_with fail
  refine C1.out.mono ?_;rintro e w' ⟨rfl,rfl⟩
  go_wp2_with fail
  go_ret;exact⟨rfl,A0f _ _⟩
 go_enter Tryz.func88,Tryz.ntmps88
 go_wp2_with fail
 refine C1.out.mono ?_;rintro e w' ⟨rfl,rfl⟩
 go_wp2_with fail
 refine C2.out.mono ?_;rintro e w' ⟨rfl,rfl⟩
 go_wp2_with fail
 go_ret;exact⟨rfl,A0f _ _⟩
theorem E0z(w:World)(a:Option Addr)(n cap:Nat)(L:List KV)(i:Nat)(hs:Ks w a n L)(hn:n<=65536)(hi:i<n)(ht:(kAt L i).tag=7):Calls Tryz.prog 88 #[.slice a n cap,.int .i64 i] w (A4p (A2d L i) w):=by
 obtain⟨b,off,rfl,hbl,hk⟩:=hs.at i hi;obtain⟨q0,q1,q2,q3,q4⟩:=hk;rw[ht]at q0;rw[show A2d L i=isT L (kAt L i).a 1 from by unfold A2d;simp[ht]]
 have C1:=hzz (A8t (w.alloc (.cells #[.int .i64 7,.int .i64 (kAt L i).a,.int .i64 (kAt L i).b,.int .i64 (kAt L i).n,.string ⟨(kAt L i).s.toArray⟩] 61)) _ n cap L (kAt L i).a 1 (hs.below (A0f _ _)) hn)
 generalize isT L (kAt L i).a 1=r1 at*;clear hs ht;generalize(kAt L i).a=ca at*;generalize(kAt L i).b=cb at*;generalize(kAt L i).n=cn at*;generalize(kAt L i).s=cs at*
 go_enter Tryz.func88,Tryz.ntmps88
 go_wp2_with fail
 refine C1.out.mono ?_;rintro e w' ⟨rfl,rfl⟩
 go_wp2_with fail
 go_ret;exact⟨rfl,A0f _ _⟩
theorem E0d(w:World)(a:Option Addr)(n cap:Nat)(L:List KV)(i:Nat)(hs:Ks w a n L)(hn:n<=65536)(hi:i<n)(ht:(kAt L i).tag=8):Calls Tryz.prog 88 #[.slice a n cap,.int .i64 i] w (A4p (A2d L i) w):=by
 obtain⟨b,off,rfl,hbl,hk⟩:=hs.at i hi;obtain⟨q0,q1,q2,q3,q4⟩:=hk;rw[ht]at q0;rw[show A2d L i=isT L (kAt L i).a 1 from by unfold A2d;simp[ht]]
 have C1:=hzz (A8t (w.alloc (.cells #[.int .i64 8,.int .i64 (kAt L i).a,.int .i64 (kAt L i).b,.int .i64 (kAt L i).n,.string ⟨(kAt L i).s.toArray⟩] 61)) _ n cap L (kAt L i).a 1 (hs.below (A0f _ _)) hn)
 generalize isT L (kAt L i).a 1=r1 at*;clear hs ht;generalize(kAt L i).a=ca at*;generalize(kAt L i).b=cb at*;generalize(kAt L i).n=cn at*;generalize(kAt L i).s=cs at*
 go_enter Tryz.func88,Tryz.ntmps88
 go_wp2_with fail
 refine C1.out.mono ?_;rintro e w' ⟨rfl,rfl⟩
 go_wp2_with fail
 go_ret;exact⟨rfl,A0f _ _⟩
theorem D9g(w:World)(a:Option Addr)(n cap:Nat)(L:List KV)(i:Nat)(hs:Ks w a n L)(hn:n<=65536)(hi:i<n)(ht:(kAt L i).tag=9):Calls Tryz.prog 88 #[.slice a n cap,.int .i64 i] w (A4p (A2d L i) w):=by
 obtain⟨b,off,rfl,hbl,hk⟩:=hs.at i hi;obtain⟨q0,q1,q2,q3,q4⟩:=hk;rw[ht]at q0;rw[show A2d L i=(isT L (kAt L i).a 7&&isT L (kAt L i).b 12)from by unfold A2d;simp[ht]]
 have C1:=hzz (A8t (w.alloc (.cells #[.int .i64 9,.int .i64 (kAt L i).a,.int .i64 (kAt L i).b,.int .i64 (kAt L i).n,.string ⟨(kAt L i).s.toArray⟩] 61)) _ n cap L (kAt L i).a 7 (hs.below (A0f _ _)) hn)
 have C2:=hzz (A8t (w.alloc (.cells #[.int .i64 9,.int .i64 (kAt L i).a,.int .i64 (kAt L i).b,.int .i64 (kAt L i).n,.string ⟨(kAt L i).s.toArray⟩] 61)) _ n cap L (kAt L i).b 12 (hs.below (A0f _ _)) hn)
 generalize isT L (kAt L i).a 7=r1 at*;generalize isT L (kAt L i).b 12=r2 at*;clear hs ht;generalize(kAt L i).a=ca at*;generalize(kAt L i).b=cb at*;generalize(kAt L i).n=cn at*
 generalize(kAt L i).s=cs at*
 cases r1
 ·go_enter Tryz.func88,Tryz.ntmps88
  go_wp2_with fail
  refine C1.out.mono ?_;rintro e w' ⟨rfl,rfl⟩
  go_wp2_with fail
  go_ret;exact⟨rfl,A0f _ _⟩
 go_enter Tryz.func88,Tryz.ntmps88
 go_wp2_with fail
 refine C1.out.mono ?_;rintro e w' ⟨rfl,rfl⟩
 go_wp2_with fail
 refine C2.out.mono ?_;rintro e w' ⟨rfl,rfl⟩
 go_wp2_with fail
 go_ret;exact⟨rfl,A0f _ _⟩
theorem D8c(w:World)(a:Option Addr)(n cap:Nat)(L:List KV)(i:Nat)(hs:Ks w a n L)(hn:n<=65536)(hi:i<n)(ht:(kAt L i).tag=10):Calls Tryz.prog 88 #[.slice a n cap,.int .i64 i] w (A4p (A2d L i) w):=by
 obtain⟨b,off,rfl,hbl,hk⟩:=hs.at i hi;obtain⟨q0,q1,q2,q3,q4⟩:=hk;rw[ht]at q0;rw[show A2d L i=(isT L (kAt L i).a 7&&isT L (kAt L i).b 12)from by unfold A2d;simp[ht]]
 have C1:=hzz (A8t (w.alloc (.cells #[.int .i64 10,.int .i64 (kAt L i).a,.int .i64 (kAt L i).b,.int .i64 (kAt L i).n,.string ⟨(kAt L i).s.toArray⟩] 61)) _ n cap L (kAt L i).a 7 (hs.below (A0f _ _)) hn)
 have C2:=hzz (A8t (w.alloc (.cells #[.int .i64 10,.int .i64 (kAt L i).a,.int .i64 (kAt L i).b,.int .i64 (kAt L i).n,.string ⟨(kAt L i).s.toArray⟩] 61)) _ n cap L (kAt L i).b 12 (hs.below (A0f _ _)) hn)
 generalize isT L (kAt L i).a 7=r1 at*;generalize isT L (kAt L i).b 12=r2 at*;clear hs ht;generalize(kAt L i).a=ca at*;generalize(kAt L i).b=cb at*;generalize(kAt L i).n=cn at*
 generalize(kAt L i).s=cs at*
 cases r1
 ·go_enter Tryz.func88,Tryz.ntmps88
  go_wp2_with fail
  refine C1.out.mono ?_;rintro e w' ⟨rfl,rfl⟩
  go_wp2_with fail
  go_ret;exact⟨rfl,A0f _ _⟩
 go_enter Tryz.func88,Tryz.ntmps88
 go_wp2_with fail
 refine C1.out.mono ?_;rintro e w' ⟨rfl,rfl⟩
 go_wp2_with fail
 refine C2.out.mono ?_;rintro e w' ⟨rfl,rfl⟩
 go_wp2_with fail
 go_ret;exact⟨rfl,A0f _ _⟩
theorem C9a(w:World)(a:Option Addr)(n cap:Nat)(L:List KV)(i:Nat)(hs:Ks w a n L)(hn:n<=65536)(hi:i<n)(h0:(kAt L i).tag≠0)(h1:(kAt L i).tag≠1)(h3:(kAt L i).tag≠3)(h5:(kAt L i).tag≠5)(h12:(kAt L i).tag≠12)(h7:(kAt L i).tag≠7)(h8:(kAt L i).tag≠8)(h9:(kAt L i).tag≠9)(h10:(kAt L i).tag≠10):Calls Tryz.prog 88 #[.slice a n cap,.int .i64 i] w (A4p (A2d L i) w):=by
 obtain⟨b,off,rfl,hbl,hk⟩:=hs.at i hi;obtain⟨q0,q1,q2,q3,q4⟩:=hk;rw[show A2d L i=false from by unfold A2d;simp[h0,h1,h3,h5,h12,h7,h8,h9,h10]];clear hs
 generalize(kAt L i).tag=t at*;generalize(kAt L i).a=ca at*;generalize(kAt L i).b=cb at*;generalize(kAt L i).n=cn at*;generalize(kAt L i).s=cs at*;have e0:(t==0)=false:=by simp[h0]
 have e1:(t==1)=false:=by simp[h1]
 have e3:(t==3)=false:=by simp[h3]
 have e5:(t==5)=false:=by simp[h5]
 have e12:(t==12)=false:=by simp[h12]
 have e7:(t==7)=false:=by simp[h7]
 have e8:(t==8)=false:=by simp[h8]
 have e9:(t==9)=false:=by simp[h9]
 have e10:(t==10)=false:=by simp[h10]
 clear h0 h1 h3 h5 h12 h7 h8 h9 h10;go_enter Tryz.func88,Tryz.ntmps88
 go_wp2_with fail
 go_ret;exact⟨rfl,A0f _ _⟩
theorem C9t(w:World)(a:Option Addr)(n cap:Nat)(L:List KV)(i:Nat)(hs:Ks w a n L)(hn:n<=65536)(hi:i<n)(hl:(kAt L i).s.length<=65536):Calls Tryz.prog 88 #[.slice a n cap,.int .i64 i] w (A4p (A2d L i) w):=by
 by_cases h0:(kAt L i).tag=0
 ·exact E1f w a n cap L i hs hn hi h0
 by_cases h1:(kAt L i).tag=1
 ·exact E0r w a n cap L i hs hn hi h1 hl
 by_cases h3:(kAt L i).tag=3
 ·exact D9m w a n cap L i hs hn hi h3
 by_cases h5:(kAt L i).tag=5
 ·exact D9k w a n cap L i hs hn hi h5
 by_cases h12:(kAt L i).tag=12
 ·exact D5i w a n cap L i hs hn hi h12
 by_cases h7:(kAt L i).tag=7
 ·exact E0z w a n cap L i hs hn hi h7
 by_cases h8:(kAt L i).tag=8
 ·exact E0d w a n cap L i hs hn hi h8
 by_cases h9:(kAt L i).tag=9
 ·exact D9g w a n cap L i hs hn hi h9
 by_cases h10:(kAt L i).tag=10
 ·exact D8c w a n cap L i hs hn hi h10
 exact C9a w a n cap L i hs hn hi h0 h1 h3 h5 h12 h7 h8 h9 h10
end
end Go.Proofs.YtclpkipaehpkdaaGreatDoor
