/- asm -/
import Derived.Test.YtclpkipaehpkdaaGreatDoorQ06AsmBack
import Derived.Test.YtclpkipaehpkdaaGreatDoorQ08AsmBack
set_option linter.unusedVariables false
set_option linter.unusedSimpArgs false
set_option maxRecDepth 100000
set_option maxHeartbeats 64000000
open Go.Proofs.Tryz
namespace Go.Proofs.YtclpkipaehpkdaaGreatDoor
section
open Go.ChangeShapes Go.WideShapes Go.ChangeAt Go.RowKit
theorem yS.no{r:Bool}{w w':World}(h:r=false)(hb:Below w.heap.size w w'):yS r w (.returned (.bool false)) w':=⟨by rw[h],hb⟩
theorem yS.yes{r:Bool}{w w':World}(h:r=true)(hb:Below w.heap.size w w'):yS r w (.returned (.bool true)) w':=⟨by rw[h],hb⟩
theorem yS.is{r x:Bool}{w w':World}(h:r=x)(hb:Below w.heap.size w w'):yS r w (.returned (.bool x)) w':=⟨by rw[h],hb⟩
theorem aE(w:World)(a:Option Addr)(n cap:Nat)(L:List KV)(i:Nat)(hs:Ks w a n L)(hn:n<=65536)(hi:i<n)(ht:(kAt L i).tag=0):Calls prog 106 #[.slice a n cap,.int .i64 i] w (yS (xS L i) w):=by
 obtain⟨b,off,rfl,Zu,hk⟩:=hs.at i hi;obtain⟨q0,q1,q2,q3,q4⟩:=hk;rw[ht]at q0;obtain⟨r,XV⟩:=Z8 (xS L i);rw[<-XV]
 have ZS:=Z9 (r=(yM ⟨0,(kAt L i).a,(kAt L i).b,(kAt L i).n,(kAt L i).s⟩&&(i==0||decide ((kAt L ((i:Int) -1)).tag=5)))) (by
  rw[XV];unfold xS;rw[show yn L i=(i==0||decide ((kAt L ((i:Int) -1)).tag=5))from by unfold yn;simp[ht],show yM (kAt L i)=yM ⟨0,(kAt L i).a,(kAt L i).b,(kAt L i).n,(kAt L i).s⟩from by unfold yM;rw[ht]])
 clear XV
 have HP:=Z9 (i≠0->w.cell? ⟨b,off+(i-1)*5,none⟩=some (.int .i64 (kAt L ((i:Int) -1)).tag)/\((i-1:Nat):Int)=(i:Int) -1) (fun h0=>by
  obtain⟨b',off',he,_,hk⟩:=hs.at (i-1) (by omega)
  cases he
  have p0:=hk.c0;have Rj:((i-1:Nat):Int)=(i:Int) -1:=by omega
  rw[Rj]at p0;exact⟨p0,Rj⟩)
 generalize(kAt L ((i:Int) -1)).tag=t1 at*;clear hs ht;generalize(kAt L i).a=ca at*;generalize(kAt L i).b=cb at*;generalize(kAt L i).n=cn at*;generalize(kAt L i).s=cs at*;by_cases hs:cs=[]
 case' neg=>
  have es:cs.isEmpty=false:=by simp[hs]
  have HQ:=Z' (show r=false by rw[ZS.out];unfold yM;simp[hs]);clear hs;go_enter func106,ntmps106
  go_wp2_with fail
  go_ret;exact yS.no HQ.out (yV _ _)
 have es:cs.isEmpty=true:=by simp[hs]
 by_cases hn:cn=0
 case' neg=>
  have en:(cn !=0)=true:=by simp[hn]
  have HQ:=Z' (show r=false by rw[ZS.out];unfold yM;simp[hn]);clear hn;go_enter func106,ntmps106
  go_wp2_with fail
  go_ret;exact yS.no HQ.out (yV _ _)
 have en:(cn !=0)=false:=by simp[hn]
 by_cases hb:cb=0
 case' neg=>
  have eb:(cb !=0)=true:=by simp[hb]
  have HQ:=Z' (show r=false by rw[ZS.out];unfold yM;simp[hb]);clear hb;go_enter func106,ntmps106
  go_wp2_with fail
  go_ret;exact yS.no HQ.out (yV _ _)
 have eb:(cb !=0)=false:=by simp[hb]
 by_cases ha:ca=0
 case' neg=>
  have ea:(ca !=0)=true:=by simp[ha]
  have HQ:=Z' (show r=false by rw[ZS.out];unfold yM;simp[ha]);clear ha;go_enter func106,ntmps106
  go_wp2_with fail
  go_ret;exact yS.no HQ.out (yV _ _)
 have ea:(ca !=0)=false:=by simp[ha]
 have HB:=Z' (show yM ⟨0,ca,cb,cn,cs⟩=true by unfold yM;simp[hs,hn,hb,ha]);rw[HB.out,Bool.true_and]at ZS;clear hs hn hb ha;by_cases h0:i=0
 ·have e0:((i:Int)==0)=true:=by simp[h0]
  have HQ:=Z' (show r=true by rw[ZS.out];simp[h0]);clear h0 HP;go_enter func106,ntmps106
  go_wp2_with fail
  go_ret;exact yS.yes HQ.out (yV _ _)
 obtain⟨p0,Rj⟩:=HP.out h0;have e0:((i:Int)==0)=false:=by simp;omega
 have i1:(1:Int)<=i:=by omega
 have i2:((i:Int) -1).toNat=i-1:=by omega
 have i3:(i:Int) -1<n:=by omega
 have HQ:=Z' (show r=decide (t1=5) by rw[ZS.out];simp[h0]);clear HP h0 Rj;by_cases h5:t1=5
 ·subst h5;go_enter func106,ntmps106
  go_wp2_with fail
  go_ret;exact yS.yes (by rw[HQ.out];rfl) (yV _ _)
 have e5:(t1==5)=false:=by simp[h5]
 have WF:=Z' (show r=false by rw[HQ.out,decide_eq_false h5]);clear h5;go_enter func106,ntmps106
 go_wp2_with fail
 go_ret;exact yS.no WF.out (yV _ _)
theorem aN(w:World)(a:Option Addr)(n cap:Nat)(L:List KV)(i:Nat)(hs:Ks w a n L)(hn:n<=65536)(hi:i<n)(ht:(kAt L i).tag=1)(hl:(kAt L i).s.length<=65536):Calls prog 106 #[.slice a n cap,.int .i64 i] w (yS (xS L i) w):=by
 obtain⟨b,off,rfl,Zu,hk⟩:=hs.at i hi;obtain⟨q0,q1,q2,q3,q4⟩:=hk;rw[ht]at q0;obtain⟨r,XV⟩:=Z8 (xS L i);rw[<-XV]
 have ZS:=Z9 (r=(yM ⟨1,(kAt L i).a,(kAt L i).b,(kAt L i).n,(kAt L i).s⟩&&((wn (kAt L i).s).isSome&&decide ((kAt L i).s.length<=65535)))) (by
  rw[XV];unfold xS;rw[show yn L i=((wn (kAt L i).s).isSome&&decide ((kAt L i).s.length<=65535))from by unfold yn;simp[ht],show yM (kAt L i)=yM ⟨1,(kAt L i).a,(kAt L i).b,(kAt L i).n,(kAt L i).s⟩from by unfold yM;rw[ht]])
 clear XV;obtain⟨c,w1,hr,Yd,Y5,ZQ,Wi⟩:=mW (w.alloc (.cells #[.int .i64 1,.int .i64 (kAt L i).a,.int .i64 (kAt L i).b,.int .i64 (kAt L i).n,.string ⟨(kAt L i).s.toArray⟩] 61)) (kAt L i).s;have hz:(w.alloc (.cells #[.int .i64 1,.int .i64 (kAt L i).a,.int .i64 (kAt L i).b,.int .i64 (kAt L i).n,.string ⟨(kAt L i).s.toArray⟩] 61)).heap.size=w.heap.size+1:=by simp
 rw[hz]at hr Yd;clear hz;have CL:=dA w1 _ (kAt L i).s.length c (kAt L i).s Yd hl Y5;have ZM:=Z9 (Below w.heap.size w w1) ((yV _ _).trans (ZQ.mono (by simp)));have Za:=Z' (yF ZQ (cell_of_row (w.alloc (.cells #[.int .i64 1,.int .i64 (kAt L i).a,.int .i64 (kAt L i).b,.int .i64 (kAt L i).n,.string ⟨(kAt L i).s.toArray⟩] 61)) w.heap.size 4 _ _ _ (heap_alloc_last w _)));have HL:=Z' CL;clear CL Yd Y5 ZQ Wi hl;clear hs ht;generalize(kAt L i).a=ca at*;generalize(kAt L i).b=cb at*;generalize(kAt L i).n=cn at*;generalize(kAt L i).s=cs at*;by_cases hn:cn=0
 case' neg=>
  have en:(cn !=0)=true:=by simp[hn]
  have HQ:=Z' (show r=false by rw[ZS.out];unfold yM;simp[hn]);clear hn;go_enter func106,ntmps106
  go_wp2_with fail
  go_ret;exact yS.no HQ.out (yV _ _)
 have en:(cn !=0)=false:=by simp[hn]
 by_cases hb:cb=0
 case' neg=>
  have eb:(cb !=0)=true:=by simp[hb]
  have HQ:=Z' (show r=false by rw[ZS.out];unfold yM;simp[hb]);clear hb;go_enter func106,ntmps106
  go_wp2_with fail
  go_ret;exact yS.no HQ.out (yV _ _)
 have eb:(cb !=0)=false:=by simp[hb]
 by_cases ha:ca=0
 case' neg=>
  have ea:(ca !=0)=true:=by simp[ha]
  have HQ:=Z' (show r=false by rw[ZS.out];unfold yM;simp[ha]);clear ha;go_enter func106,ntmps106
  go_wp2_with fail
  go_ret;exact yS.no HQ.out (yV _ _)
 have ea:(ca !=0)=false:=by simp[ha]
 have HB:=Z' (show yM ⟨1,ca,cb,cn,cs⟩=true by unfold yM;simp[hn,hb,ha]);rw[HB.out,Bool.true_and]at ZS;clear hn hb ha;go_enter func106,ntmps106
 go_wp2_with fail
 cases hd:wn cs with
 |none=>
  rw[hd]at ZS HL;clear hd;refine HL.out.mono ?_;rintro e w2 ⟨rfl,ZN⟩;have ZT:=Z7 ZM ZN;have c4:w2.cell? ⟨w.heap.size,4,none⟩=some (.string ⟨cs.toArray⟩):=yF ZN Za.out;clear ZN hr
  go_wp2_with fail
  go_ret;exact yS.no (by rw[ZS.out];rfl) ZT.out
 |some us=>
 rw[hd]at ZS HL;clear hd;refine HL.out.mono ?_;rintro e w2 ⟨v2,m2,rfl,_,ZN⟩;have ZT:=Z7 ZM ZN;have c4:w2.cell? ⟨w.heap.size,4,none⟩=some (.string ⟨cs.toArray⟩):=yF ZN Za.out;clear ZN hr;by_cases h6:cs.length<=65535
 ·have h7:decide ((cs.length:Int)<=65535)=true:=by simp;omega
  have H6:=Z' (show r=true by rw[ZS.out,decide_eq_true h6];rfl)
  go_wp2_with fail
  go_ret;exact yS.yes H6.out ZT.out
 have h7:decide ((cs.length:Int)<=65535)=false:=by simp;omega
 have H6:=Z' (show r=false by rw[ZS.out,decide_eq_false h6];rfl)
 go_wp2_with fail
 go_ret;exact yS.no H6.out ZT.out
theorem bh(w:World)(a:Option Addr)(n cap:Nat)(L:List KV)(i:Nat)(hs:Ks w a n L)(hn:n<=65536)(hi:i<n)(ht:(kAt L i).tag=3):Calls prog 106 #[.slice a n cap,.int .i64 i] w (yS (xS L i) w):=by
 obtain⟨b,off,rfl,Zu,hk⟩:=hs.at i hi;obtain⟨q0,q1,q2,q3,q4⟩:=hk;rw[ht]at q0;obtain⟨r,XV⟩:=Z8 (xS L i);rw[<-XV]
 have ZS:=Z9 (r=(yM ⟨3,(kAt L i).a,(kAt L i).b,(kAt L i).n,(kAt L i).s⟩&&(true))) (by
  rw[XV];unfold xS;rw[show yn L i=(true)from by unfold yn;simp[ht],show yM (kAt L i)=yM ⟨3,(kAt L i).a,(kAt L i).b,(kAt L i).n,(kAt L i).s⟩from by unfold yM;rw[ht]])
 clear XV;clear hs ht;generalize(kAt L i).a=ca at*;generalize(kAt L i).b=cb at*;generalize(kAt L i).n=cn at*;generalize(kAt L i).s=cs at*;by_cases hs:cs=[]
 case' neg=>
  have es:cs.isEmpty=false:=by simp[hs]
  have HQ:=Z' (show r=false by rw[ZS.out];unfold yM;simp[hs]);clear hs;go_enter func106,ntmps106
  go_wp2_with fail
  go_ret;exact yS.no HQ.out (yV _ _)
 have es:cs.isEmpty=true:=by simp[hs]
 by_cases hb:cb=0
 case' neg=>
  have eb:(cb !=0)=true:=by simp[hb]
  have HQ:=Z' (show r=false by rw[ZS.out];unfold yM;simp[hb]);clear hb;go_enter func106,ntmps106
  go_wp2_with fail
  go_ret;exact yS.no HQ.out (yV _ _)
 have eb:(cb !=0)=false:=by simp[hb]
 by_cases ha:ca=0
 case' neg=>
  have ea:(ca !=0)=true:=by simp[ha]
  have HQ:=Z' (show r=false by rw[ZS.out];unfold yM;simp[ha]);clear ha;go_enter func106,ntmps106
  go_wp2_with fail
  go_ret;exact yS.no HQ.out (yV _ _)
 have ea:(ca !=0)=false:=by simp[ha]
 by_cases h3: -2147483648<=cn/\cn<=2147483647
 ·have w3:IntKind.i32.wrap cn=cn:=by rw[IntKind.wrap_i32];omega
  have w5:IntKind.i64.wrap cn=cn:=by rw[IntKind.wrap_i64];omega
  have e3:(cn==cn)=true:=by simp
  have HQ:=Z' (show r=true by rw[ZS.out];unfold yM;simp[hs,hb,ha,h3]);clear h3 hs hb ha;go_enter func106,ntmps106
  go_wp2_with fail
  go_ret;exact yS.yes HQ.out (yV _ _)
 obtain⟨q,hq⟩:=Z8 (IntKind.i32.wrap cn);have Fq:q≠cn:=by rw[hq,IntKind.wrap_i32];omega
 have w3:IntKind.i32.wrap cn=q:=hq.symm;have w4:IntKind.i64.wrap q=q:=by rw[hq,IntKind.wrap_i32,IntKind.wrap_i64];omega
 have e3:(cn==q)=false:=by simp;omega
 have HQ:=Z' (show r=false by rw[ZS.out];unfold yM;simp[hs,hb,ha];omega);clear h3 hs hb ha hq Fq;go_enter func106,ntmps106
 go_wp2_with fail
 go_ret;exact yS.no HQ.out (yV _ _)
theorem af(w:World)(a:Option Addr)(n cap:Nat)(L:List KV)(i:Nat)(hs:Ks w a n L)(hn:n<=65536)(hi:i<n)(ht:(kAt L i).tag=5):Calls prog 106 #[.slice a n cap,.int .i64 i] w (yS (xS L i) w):=by
 obtain⟨b,off,rfl,Zu,hk⟩:=hs.at i hi;obtain⟨q0,q1,q2,q3,q4⟩:=hk;rw[ht]at q0;obtain⟨r,XV⟩:=Z8 (xS L i);rw[<-XV]
 have ZS:=Z9 (r=(yM ⟨5,(kAt L i).a,(kAt L i).b,(kAt L i).n,(kAt L i).s⟩&&(decide (i+1<L.length)&&decide ((kAt L ((i:Int)+1)).tag=0)))) (by
  rw[XV];unfold xS;rw[show yn L i=(decide (i+1<L.length)&&decide ((kAt L ((i:Int)+1)).tag=0))from by unfold yn;simp[ht],show yM (kAt L i)=yM ⟨5,(kAt L i).a,(kAt L i).b,(kAt L i).n,(kAt L i).s⟩from by unfold yM;rw[ht]])
 clear XV
 have HP:=Z9 (i+1<n->w.cell? ⟨b,off+(i+1)*5,none⟩=some (.int .i64 (kAt L ((i:Int)+1)).tag)) (fun h1=>by
  obtain⟨b',off',he,_,hk⟩:=hs.at (i+1) h1
  cases he
  have p0:=hk.c0;rw[show((i+1:Nat):Int)=(i:Int)+1 by omega]at p0;exact p0)
 rw[hs.1]at ZS;generalize(kAt L ((i:Int)+1)).tag=t1 at*;clear hs ht;generalize(kAt L i).a=ca at*;generalize(kAt L i).b=cb at*;generalize(kAt L i).n=cn at*;generalize(kAt L i).s=cs at*;by_cases hs:cs=[]
 case' neg=>
  have es:cs.isEmpty=false:=by simp[hs]
  have HQ:=Z' (show r=false by rw[ZS.out];unfold yM;simp[hs]);clear hs;go_enter func106,ntmps106
  go_wp2_with fail
  go_ret;exact yS.no HQ.out (yV _ _)
 have es:cs.isEmpty=true:=by simp[hs]
 by_cases hb:cb=0
 case' neg=>
  have eb:(cb !=0)=true:=by simp[hb]
  have HQ:=Z' (show r=false by rw[ZS.out];unfold yM;simp[hb]);clear hb;go_enter func106,ntmps106
  go_wp2_with fail
  go_ret;exact yS.no HQ.out (yV _ _)
 have eb:(cb !=0)=false:=by simp[hb]
 by_cases ha:ca=0
 case' neg=>
  have ea:(ca !=0)=true:=by simp[ha]
  have HQ:=Z' (show r=false by rw[ZS.out];unfold yM;simp[ha]);clear ha;go_enter func106,ntmps106
  go_wp2_with fail
  go_ret;exact yS.no HQ.out (yV _ _)
 have ea:(ca !=0)=false:=by simp[ha]
 have HB:=Z' (show yM ⟨5,ca,cb,cn,cs⟩=true by unfold yM;simp[hs,hb,ha]);rw[HB.out,Bool.true_and]at ZS;clear hs hb ha;by_cases h1:i+1<n
 ·have p0:=HP.out h1;have e1:decide ((i:Int)+1<n)=true:=by simp;omega
  have i3:(i:Int)+1<n:=by omega
  have HQ:=Z' (show r=decide (t1=0) by rw[ZS.out];simp[h1]);clear HP h1;by_cases h5:t1=0
  ·subst h5;go_enter func106,ntmps106
   go_wp2_with fail
   go_ret;exact yS.yes (by rw[HQ.out];rfl) (yV _ _)
  have e5:(t1==0)=false:=by simp[h5]
  have WF:=Z' (show r=false by rw[HQ.out,decide_eq_false h5]);clear h5;go_enter func106,ntmps106
  go_wp2_with fail
  go_ret;exact yS.no WF.out (yV _ _)
 have e1:decide ((i:Int)+1<n)=false:=by simp;omega
 have HQ:=Z' (show r=false by rw[ZS.out];simp[h1]);clear HP h1;go_enter func106,ntmps106
 go_wp2_with fail
 go_ret;exact yS.no HQ.out (yV _ _)
theorem D1r(w:World)(a:Option Addr)(n cap:Nat)(L:List KV)(i:Nat)(hs:Ks w a n L)(hn:n<=65536)(hi:i<n)(ht:(kAt L i).tag=7):Calls prog 106 #[.slice a n cap,.int .i64 i] w (yS (xS L i) w):=by
 obtain⟨b,off,rfl,Zu,hk⟩:=hs.at i hi;obtain⟨q0,q1,q2,q3,q4⟩:=hk;rw[ht]at q0;obtain⟨r,XV⟩:=Z8 (xS L i);rw[<-XV]
 have ZS:=Z9 (r=(yM ⟨7,(kAt L i).a,(kAt L i).b,(kAt L i).n,(kAt L i).s⟩&&(isT L (kAt L i).a 1))) (by
  rw[XV];unfold xS;rw[show yn L i=(isT L (kAt L i).a 1)from by unfold yn;simp[ht],show yM (kAt L i)=yM ⟨7,(kAt L i).a,(kAt L i).b,(kAt L i).n,(kAt L i).s⟩from by unfold yM;rw[ht]])
 clear XV;have C1:=Z' (tZ (w.alloc (.cells #[.int .i64 7,.int .i64 (kAt L i).a,.int .i64 (kAt L i).b,.int .i64 (kAt L i).n,.string ⟨(kAt L i).s.toArray⟩] 61)) _ n cap L (kAt L i).a 1 (hs.below (yV _ _)) hn);generalize isT L (kAt L i).a 1=r1 at*;clear hs ht;generalize(kAt L i).a=ca at*;generalize(kAt L i).b=cb at*;generalize(kAt L i).n=cn at*;generalize(kAt L i).s=cs at*;by_cases hs:cs=[]
 case' neg=>
  have es:cs.isEmpty=false:=by simp[hs]
  have HQ:=Z' (show r=false by rw[ZS.out];unfold yM;simp[hs]);clear hs;go_enter func106,ntmps106
  go_wp2_with fail
  go_ret;exact yS.no HQ.out (yV _ _)
 have es:cs.isEmpty=true:=by simp[hs]
 by_cases hn:cn=0
 case' neg=>
  have en:(cn !=0)=true:=by simp[hn]
  have HQ:=Z' (show r=false by rw[ZS.out];unfold yM;simp[hn]);clear hn;go_enter func106,ntmps106
  go_wp2_with fail
  go_ret;exact yS.no HQ.out (yV _ _)
 have en:(cn !=0)=false:=by simp[hn]
 by_cases hb:cb=0
 case' neg=>
  have eb:(cb !=0)=true:=by simp[hb]
  have HQ:=Z' (show r=false by rw[ZS.out];unfold yM;simp[hb]);clear hb;go_enter func106,ntmps106
  go_wp2_with fail
  go_ret;exact yS.no HQ.out (yV _ _)
 have eb:(cb !=0)=false:=by simp[hb]
 have HB:=Z' (show yM ⟨7,ca,cb,cn,cs⟩=true by unfold yM;simp[hs,hn,hb]);rw[HB.out,Bool.true_and]at ZS;clear hs hn hb;go_enter func106,ntmps106
 go_wp2_with fail
 refine C1.out.mono ?_;rintro e w' ⟨rfl,rfl⟩
 go_wp2_with fail
 go_ret;exact yS.is ZS.out (yV _ _)
theorem bj(w:World)(a:Option Addr)(n cap:Nat)(L:List KV)(i:Nat)(hs:Ks w a n L)(hn:n<=65536)(hi:i<n)(ht:(kAt L i).tag=8):Calls prog 106 #[.slice a n cap,.int .i64 i] w (yS (xS L i) w):=by
 obtain⟨b,off,rfl,Zu,hk⟩:=hs.at i hi;obtain⟨q0,q1,q2,q3,q4⟩:=hk;rw[ht]at q0;obtain⟨r,XV⟩:=Z8 (xS L i);rw[<-XV]
 have ZS:=Z9 (r=(yM ⟨8,(kAt L i).a,(kAt L i).b,(kAt L i).n,(kAt L i).s⟩&&(isT L (kAt L i).a 1))) (by
  rw[XV];unfold xS;rw[show yn L i=(isT L (kAt L i).a 1)from by unfold yn;simp[ht],show yM (kAt L i)=yM ⟨8,(kAt L i).a,(kAt L i).b,(kAt L i).n,(kAt L i).s⟩from by unfold yM;rw[ht]])
 clear XV;have C1:=Z' (tZ (w.alloc (.cells #[.int .i64 8,.int .i64 (kAt L i).a,.int .i64 (kAt L i).b,.int .i64 (kAt L i).n,.string ⟨(kAt L i).s.toArray⟩] 61)) _ n cap L (kAt L i).a 1 (hs.below (yV _ _)) hn);generalize isT L (kAt L i).a 1=r1 at*;clear hs ht;generalize(kAt L i).a=ca at*;generalize(kAt L i).b=cb at*;generalize(kAt L i).n=cn at*;generalize(kAt L i).s=cs at*;by_cases hs:cs=[]
 case' neg=>
  have es:cs.isEmpty=false:=by simp[hs]
  have HQ:=Z' (show r=false by rw[ZS.out];unfold yM;simp[hs]);clear hs;go_enter func106,ntmps106
  go_wp2_with fail
  go_ret;exact yS.no HQ.out (yV _ _)
 have es:cs.isEmpty=true:=by simp[hs]
 by_cases hn:cn=0
 case' neg=>
  have en:(cn !=0)=true:=by simp[hn]
  have HQ:=Z' (show r=false by rw[ZS.out];unfold yM;simp[hn]);clear hn;go_enter func106,ntmps106
  go_wp2_with fail
  go_ret;exact yS.no HQ.out (yV _ _)
 have en:(cn !=0)=false:=by simp[hn]
 by_cases hb:cb=0
 case' neg=>
  have eb:(cb !=0)=true:=by simp[hb]
  have HQ:=Z' (show r=false by rw[ZS.out];unfold yM;simp[hb]);clear hb;go_enter func106,ntmps106
  go_wp2_with fail
  go_ret;exact yS.no HQ.out (yV _ _)
 have eb:(cb !=0)=false:=by simp[hb]
 have HB:=Z' (show yM ⟨8,ca,cb,cn,cs⟩=true by unfold yM;simp[hs,hn,hb]);rw[HB.out,Bool.true_and]at ZS;clear hs hn hb;go_enter func106,ntmps106
 go_wp2_with fail
 refine C1.out.mono ?_;rintro e w' ⟨rfl,rfl⟩
 go_wp2_with fail
 go_ret;exact yS.is ZS.out (yV _ _)
theorem bJ(w:World)(a:Option Addr)(n cap:Nat)(L:List KV)(i:Nat)(hs:Ks w a n L)(hn:n<=65536)(hi:i<n)(ht:(kAt L i).tag=12):Calls prog 106 #[.slice a n cap,.int .i64 i] w (yS (xS L i) w):=by
 obtain⟨b,off,rfl,Zu,hk⟩:=hs.at i hi;obtain⟨q0,q1,q2,q3,q4⟩:=hk;rw[ht]at q0;obtain⟨r,XV⟩:=Z8 (xS L i);rw[<-XV]
 have ZS:=Z9 (r=(yM ⟨12,(kAt L i).a,(kAt L i).b,(kAt L i).n,(kAt L i).s⟩&&(isT L (kAt L i).a 1&&isT L (kAt L i).b 1))) (by
  rw[XV];unfold xS;rw[show yn L i=(isT L (kAt L i).a 1&&isT L (kAt L i).b 1)from by unfold yn;simp[ht],show yM (kAt L i)=yM ⟨12,(kAt L i).a,(kAt L i).b,(kAt L i).n,(kAt L i).s⟩from by unfold yM;rw[ht]])
 clear XV;have C1:=Z' (tZ (w.alloc (.cells #[.int .i64 12,.int .i64 (kAt L i).a,.int .i64 (kAt L i).b,.int .i64 (kAt L i).n,.string ⟨(kAt L i).s.toArray⟩] 61)) _ n cap L (kAt L i).a 1 (hs.below (yV _ _)) hn);have C2:=Z' (tZ (w.alloc (.cells #[.int .i64 12,.int .i64 (kAt L i).a,.int .i64 (kAt L i).b,.int .i64 (kAt L i).n,.string ⟨(kAt L i).s.toArray⟩] 61)) _ n cap L (kAt L i).b 1 (hs.below (yV _ _)) hn);generalize isT L (kAt L i).a 1=r1 at*;generalize isT L (kAt L i).b 1=r2 at*;clear hs ht;generalize(kAt L i).a=ca at*;generalize(kAt L i).b=cb at*;generalize(kAt L i).n=cn at*;generalize(kAt L i).s=cs at*;by_cases hs:cs=[]
 case' neg=>
  have es:cs.isEmpty=false:=by simp[hs]
  have HQ:=Z' (show r=false by rw[ZS.out];unfold yM;simp[hs]);clear hs;go_enter func106,ntmps106
  go_wp2_with fail
  go_ret;exact yS.no HQ.out (yV _ _)
 have es:cs.isEmpty=true:=by simp[hs]
 by_cases hn:cn=0
 case' neg=>
  have en:(cn !=0)=true:=by simp[hn]
  have HQ:=Z' (show r=false by rw[ZS.out];unfold yM;simp[hn]);clear hn;go_enter func106,ntmps106
  go_wp2_with fail
  go_ret;exact yS.no HQ.out (yV _ _)
 have en:(cn !=0)=false:=by simp[hn]
 have HB:=Z' (show yM ⟨12,ca,cb,cn,cs⟩=true by unfold yM;simp[hs,hn]);rw[HB.out,Bool.true_and]at ZS;clear hs hn
 cases r1
 ·go_enter func106,ntmps106
  go_wp2_with fail
  refine C1.out.mono ?_;rintro e w' ⟨rfl,rfl⟩
  go_wp2_with fail
  go_ret;exact yS.no (by rw[ZS.out];rfl) (yV _ _)
 go_enter func106,ntmps106
 go_wp2_with fail
 refine C1.out.mono ?_;rintro e w' ⟨rfl,rfl⟩
 go_wp2_with fail
 refine C2.out.mono ?_;rintro e w' ⟨rfl,rfl⟩
 go_wp2_with fail
 go_ret;exact yS.is (by rw[ZS.out];rfl) (yV _ _)
theorem a8(w:World)(a:Option Addr)(n cap:Nat)(L:List KV)(i:Nat)(hs:Ks w a n L)(hn:n<=65536)(hi:i<n)(ht:(kAt L i).tag=9):Calls prog 106 #[.slice a n cap,.int .i64 i] w (yS (xS L i) w):=by
 obtain⟨b,off,rfl,Zu,hk⟩:=hs.at i hi;obtain⟨q0,q1,q2,q3,q4⟩:=hk;rw[ht]at q0;obtain⟨r,XV⟩:=Z8 (xS L i);rw[<-XV]
 have ZS:=Z9 (r=(yM ⟨9,(kAt L i).a,(kAt L i).b,(kAt L i).n,(kAt L i).s⟩&&(isT L (kAt L i).a 7&&isT L (kAt L i).b 12))) (by
  rw[XV];unfold xS;rw[show yn L i=(isT L (kAt L i).a 7&&isT L (kAt L i).b 12)from by unfold yn;simp[ht],show yM (kAt L i)=yM ⟨9,(kAt L i).a,(kAt L i).b,(kAt L i).n,(kAt L i).s⟩from by unfold yM;rw[ht]])
 clear XV;have C1:=Z' (tZ (w.alloc (.cells #[.int .i64 9,.int .i64 (kAt L i).a,.int .i64 (kAt L i).b,.int .i64 (kAt L i).n,.string ⟨(kAt L i).s.toArray⟩] 61)) _ n cap L (kAt L i).a 7 (hs.below (yV _ _)) hn);have C2:=Z' (tZ (w.alloc (.cells #[.int .i64 9,.int .i64 (kAt L i).a,.int .i64 (kAt L i).b,.int .i64 (kAt L i).n,.string ⟨(kAt L i).s.toArray⟩] 61)) _ n cap L (kAt L i).b 12 (hs.below (yV _ _)) hn);generalize isT L (kAt L i).a 7=r1 at*;generalize isT L (kAt L i).b 12=r2 at*;clear hs ht;generalize(kAt L i).a=ca at*;generalize(kAt L i).b=cb at*;generalize(kAt L i).n=cn at*;generalize(kAt L i).s=cs at*;by_cases hs:cs=[]
 case' neg=>
  have es:cs.isEmpty=false:=by simp[hs]
  have HQ:=Z' (show r=false by rw[ZS.out];unfold yM;simp[hs]);clear hs;go_enter func106,ntmps106
  go_wp2_with fail
  go_ret;exact yS.no HQ.out (yV _ _)
 have es:cs.isEmpty=true:=by simp[hs]
 by_cases hn:cn=0
 case' neg=>
  have en:(cn !=0)=true:=by simp[hn]
  have HQ:=Z' (show r=false by rw[ZS.out];unfold yM;simp[hn]);clear hn;go_enter func106,ntmps106
  go_wp2_with fail
  go_ret;exact yS.no HQ.out (yV _ _)
 have en:(cn !=0)=false:=by simp[hn]
 have HB:=Z' (show yM ⟨9,ca,cb,cn,cs⟩=true by unfold yM;simp[hs,hn]);rw[HB.out,Bool.true_and]at ZS;clear hs hn
 cases r1
 ·go_enter func106,ntmps106
  go_wp2_with fail
  refine C1.out.mono ?_;rintro e w' ⟨rfl,rfl⟩
  go_wp2_with fail
  go_ret;exact yS.no (by rw[ZS.out];rfl) (yV _ _)
 go_enter func106,ntmps106
 go_wp2_with fail
 refine C1.out.mono ?_;rintro e w' ⟨rfl,rfl⟩
 go_wp2_with fail
 refine C2.out.mono ?_;rintro e w' ⟨rfl,rfl⟩
 go_wp2_with fail
 go_ret;exact yS.is (by rw[ZS.out];rfl) (yV _ _)
theorem cr(w:World)(a:Option Addr)(n cap:Nat)(L:List KV)(i:Nat)(hs:Ks w a n L)(hn:n<=65536)(hi:i<n)(ht:(kAt L i).tag=10):Calls prog 106 #[.slice a n cap,.int .i64 i] w (yS (xS L i) w):=by
 obtain⟨b,off,rfl,Zu,hk⟩:=hs.at i hi;obtain⟨q0,q1,q2,q3,q4⟩:=hk;rw[ht]at q0;obtain⟨r,XV⟩:=Z8 (xS L i);rw[<-XV]
 have ZS:=Z9 (r=(yM ⟨10,(kAt L i).a,(kAt L i).b,(kAt L i).n,(kAt L i).s⟩&&(isT L (kAt L i).a 7&&isT L (kAt L i).b 12))) (by
  rw[XV];unfold xS;rw[show yn L i=(isT L (kAt L i).a 7&&isT L (kAt L i).b 12)from by unfold yn;simp[ht],show yM (kAt L i)=yM ⟨10,(kAt L i).a,(kAt L i).b,(kAt L i).n,(kAt L i).s⟩from by unfold yM;rw[ht]])
 clear XV;have C1:=Z' (tZ (w.alloc (.cells #[.int .i64 10,.int .i64 (kAt L i).a,.int .i64 (kAt L i).b,.int .i64 (kAt L i).n,.string ⟨(kAt L i).s.toArray⟩] 61)) _ n cap L (kAt L i).a 7 (hs.below (yV _ _)) hn);have C2:=Z' (tZ (w.alloc (.cells #[.int .i64 10,.int .i64 (kAt L i).a,.int .i64 (kAt L i).b,.int .i64 (kAt L i).n,.string ⟨(kAt L i).s.toArray⟩] 61)) _ n cap L (kAt L i).b 12 (hs.below (yV _ _)) hn);generalize isT L (kAt L i).a 7=r1 at*;generalize isT L (kAt L i).b 12=r2 at*;clear hs ht;generalize(kAt L i).a=ca at*;generalize(kAt L i).b=cb at*;generalize(kAt L i).n=cn at*;generalize(kAt L i).s=cs at*;by_cases hs:cs=[]
 case' neg=>
  have es:cs.isEmpty=false:=by simp[hs]
  have HQ:=Z' (show r=false by rw[ZS.out];unfold yM;simp[hs]);clear hs;go_enter func106,ntmps106
  go_wp2_with fail
  go_ret;exact yS.no HQ.out (yV _ _)
 have es:cs.isEmpty=true:=by simp[hs]
 by_cases hn:cn=0
 case' neg=>
  have en:(cn !=0)=true:=by simp[hn]
  have HQ:=Z' (show r=false by rw[ZS.out];unfold yM;simp[hn]);clear hn;go_enter func106,ntmps106
  go_wp2_with fail
  go_ret;exact yS.no HQ.out (yV _ _)
 have en:(cn !=0)=false:=by simp[hn]
 have HB:=Z' (show yM ⟨10,ca,cb,cn,cs⟩=true by unfold yM;simp[hs,hn]);rw[HB.out,Bool.true_and]at ZS;clear hs hn
 cases r1
 ·go_enter func106,ntmps106
  go_wp2_with fail
  refine C1.out.mono ?_;rintro e w' ⟨rfl,rfl⟩
  go_wp2_with fail
  go_ret;exact yS.no (by rw[ZS.out];rfl) (yV _ _)
 go_enter func106,ntmps106
 go_wp2_with fail
 refine C1.out.mono ?_;rintro e w' ⟨rfl,rfl⟩
 go_wp2_with fail
 refine C2.out.mono ?_;rintro e w' ⟨rfl,rfl⟩
 go_wp2_with fail
 go_ret;exact yS.is (by rw[ZS.out];rfl) (yV _ _)
theorem du(w:World)(a:Option Addr)(n cap:Nat)(L:List KV)(i:Nat)(hs:Ks w a n L)(hn:n<=65536)(hi:i<n)(h0:(kAt L i).tag≠0)(h1:(kAt L i).tag≠1)(h3:(kAt L i).tag≠3)(h5:(kAt L i).tag≠5)(VD:(kAt L i).tag≠12)(h7:(kAt L i).tag≠7)(h8:(kAt L i).tag≠8)(h9:(kAt L i).tag≠9)(X1:(kAt L i).tag≠10):Calls prog 106 #[.slice a n cap,.int .i64 i] w (yS (xS L i) w):=by
 obtain⟨b,off,rfl,Zu,hk⟩:=hs.at i hi;obtain⟨q0,q1,q2,q3,q4⟩:=hk;rw[show xS L i=false from by unfold xS yn;simp[h0,h1,h3,h5,VD,h7,h8,h9,X1]];clear hs;generalize(kAt L i).tag=t at*;generalize(kAt L i).a=ca at*;generalize(kAt L i).b=cb at*;generalize(kAt L i).n=cn at*;generalize(kAt L i).s=cs at*;have e0:(t==0)=false:=by simp[h0]
 have e1:(t==1)=false:=by simp[h1]
 have e3:(t==3)=false:=by simp[h3]
 have e5:(t==5)=false:=by simp[h5]
 have BU:(t==12)=false:=by simp[VD]
 have e7:(t==7)=false:=by simp[h7]
 have e8:(t==8)=false:=by simp[h8]
 have e9:(t==9)=false:=by simp[h9]
 have MY:(t==10)=false:=by simp[X1]
 have z1:(t !=1)=true:=by simp[h1]
 have z3:(t !=3)=true:=by simp[h3]
 have z5:(t !=5)=true:=by simp[h5]
 clear h0 h1 h3 h5 VD h7 h8 h9 X1;obtain⟨s1,Tg⟩:∃x,cs.isEmpty=x:=⟨_,rfl⟩;obtain⟨s2,e21⟩:∃x,(cn !=0)=x:=⟨_,rfl⟩;obtain⟨s3,e22⟩:∃x,(cb !=0)=x:=⟨_,rfl⟩;obtain⟨s4,e23⟩:∃x,(ca !=0)=x:=⟨_,rfl⟩
 cases s1
 ·go_enter func106,ntmps106
  go_wp2_with fail
  go_ret;exact⟨rfl,yV _ _⟩
 cases s2
 case' true=>
  go_enter func106,ntmps106
  go_wp2_with fail
  go_ret;exact⟨rfl,yV _ _⟩
 cases s3
 case' true=>
  go_enter func106,ntmps106
  go_wp2_with fail
  go_ret;exact⟨rfl,yV _ _⟩
 cases s4
 all_goals
  go_enter func106,ntmps106
  go_wp2_with fail
  go_ret;exact⟨rfl,yV _ _⟩
theorem cY(w:World)(a:Option Addr)(n cap:Nat)(L:List KV)(i:Nat)(hs:Ks w a n L)(hn:n<=65536)(hi:i<n)(hl:(kAt L i).s.length<=65536):Calls prog 106 #[.slice a n cap,.int .i64 i] w (yS (xS L i) w):=by
 by_cases h0:(kAt L i).tag=0
 ·exact aE w a n cap L i hs hn hi h0
 by_cases h1:(kAt L i).tag=1
 ·exact aN w a n cap L i hs hn hi h1 hl
 by_cases h3:(kAt L i).tag=3
 ·exact bh w a n cap L i hs hn hi h3
 by_cases h5:(kAt L i).tag=5
 ·exact af w a n cap L i hs hn hi h5
 by_cases VD:(kAt L i).tag=12
 ·exact bJ w a n cap L i hs hn hi VD
 by_cases h7:(kAt L i).tag=7
 ·exact D1r w a n cap L i hs hn hi h7
 by_cases h8:(kAt L i).tag=8
 ·exact bj w a n cap L i hs hn hi h8
 by_cases h9:(kAt L i).tag=9
 ·exact a8 w a n cap L i hs hn hi h9
 by_cases X1:(kAt L i).tag=10
 ·exact cr w a n cap L i hs hn hi X1
 exact du w a n cap L i hs hn hi h0 h1 h3 h5 VD h7 h8 h9 X1
theorem dh(w:World)(a:Option Addr)(n cap:Nat)(L:List KV)(hs:Ks w a n L)(hn:n<=65536)(hl:∀i:Nat,i<n->(kAt L i).s.length<=65536):Calls prog 58 #[.slice a n cap] w (yS (xP L) w):=by
 have hL:=hs.1;by_cases h0:n=0
 ·subst h0;have HR:=Z' (pE (L:=L) (.inl hL));clear hs hl;go_enter func58,ntmps58
  go_wp2_with fail
  go_ret;exact yS.no HR.out Z6
 by_cases hm:1024<n
 ·have HR:=Z' (pE (L:=L) (.inr (by omega)));have e0:decide ((n:Int)<1)=false:=by simp;omega
  have e1:decide ((1024:Int)<n)=true:=by simp;omega
  clear hs hl h0 hL;go_enter func58,ntmps58
  go_wp2_with fail
  go_ret;exact yS.no HR.out Z6
 obtain⟨b,off,rfl,Zu,hk⟩:=hs.at 0 (by omega);have p0:=hk.c0;simp only[Nat.zero_mul,Nat.add_zero]at p0;have e0:decide ((n:Int)<1)=false:=by simp;omega
 have e1:decide ((1024:Int)<n)=false:=by simp;omega
 have z0:0<n:=by omega
 by_cases ht:(kAt L 0).tag=0
 ·have Gv:w.cell? ⟨b,off,none⟩=some (.int .i64 0):=by rw[p0];rw[<-ht];rfl
  have HS:=Z' hs;have HT:=Z' ht;have Zd:=Z' hL;have HL:=Z' hl;clear hk p0 hs ht hl hL;go_enter func58,ntmps58
  go_wp2_with fail
  clear Gv
  go_loopg [21] n (fun gn i wr=>∃j:Nat,j<=n/\gn=n-j/\i= .int .i64 j/\Hid (∀k,k<j->xS L k=true)/\Hid (Below w.heap.size w wr))
  case atStart=>exact⟨0,by omega,by omega,by go_num,Z' (fun k h=>by omega),Z' Z6⟩
  obtain⟨j,hj,rfl,rfl,HP,HB⟩:=hrel;by_cases ZX:j<n
  ·have Y4:=Z' (cY _ (some ⟨b,off,none⟩) n cap L j (HS.out.below HB.out) hn ZX (HL.out j ZX));have RH:=Z' (iT (L:=L) j (by rw[Zd.out];exact ZX))
   have YL:=Z9 (xS L j=true->∀k,k<j+1->xS L k=true) (fun h k hk=>by
    rcases Nat.lt_or_ge k j with h1|h1
    ·exact HP.out k h1
    obtain rfl:k=j:=by omega
    exact h)
   have j1:(j:Int)<n:=by omega
   generalize xS L j=ok at*
   go_wp2_with fail
   refine Y4.out.mono ?_;rintro e w3 ⟨rfl,Zn⟩;have ZG:=Z7 HB Zn;clear Zn
   cases ok
   ·have HR:=Z' (RH.out rfl)
    go_wp2_with fail
    go_ret;exact yS.no HR.out ZG.out
   have HN:=Z' (YL.out rfl)
   go_wp2_with fail
   go_roundg (n-(j+1))
   case measure=>omega
   exact⟨j+1,by omega,rfl,by go_num,HN,ZG⟩
  obtain rfl:j=n:=by omega
  have HR:=Z' (jy (L:=L) (by rw[Zd.out];omega) (by rw[Zd.out];omega) HT.out (by rw[Zd.out];exact HP.out))
  go_wp2_with fail
  go_ret;exact yS.yes HR.out HB.out
 have HR:=Z' (iS (L:=L) ht);have p1:(kAt L ((0:Nat):Int)).tag=(kAt L 0).tag:=rfl;rw[p1]at p0;generalize(kAt L 0).tag=t at*;have et:(t !=0)=true:=by simp[ht]
 clear hk hs hl ht p1;go_enter func58,ntmps58
 go_wp2_with fail
 go_ret;exact yS.no HR.out Z6
end
end Go.Proofs.YtclpkipaehpkdaaGreatDoor
