/- asm: own texts, merged (wip/merge3.py). No condition. -/
import Derived.Test.YtclpkipaehpkdaaGreatDoorQ06AsmLifts
import Derived.Test.YtclpkipaehpkdaaGreatDoorQ15AsmLifts
set_option linter.unusedVariables false
set_option linter.unusedSimpArgs false
set_option maxRecDepth 100000
set_option maxHeartbeats 64000000
namespace Go.Proofs.YtclpkipaehpkdaaGreatDoor
section
open Go.ChangeShapes Go.WideShapes Go.ChangeAt Go.RowKit
theorem A0k.no{r:Bool}{w w':World}(h:r=false)(hb:Below w.heap.size w w'):A0k r w (.returned (.bool false)) w':=⟨by rw[h],hb⟩
theorem A0k.yes{r:Bool}{w w':World}(h:r=true)(hb:Below w.heap.size w w'):A0k r w (.returned (.bool true)) w':=⟨by rw[h],hb⟩
theorem A0k.is{r x:Bool}{w w':World}(h:r=x)(hb:Below w.heap.size w w'):A0k r w (.returned (.bool x)) w':=⟨by rw[h],hb⟩
theorem C6b(w:World)(a:Option Addr)(n cap:Nat)(L:List KV)(i:Nat)(hs:Ks w a n L)(hn:n≤65536)(hi:i<n)(ht:(kAt L i).tag=0):Calls Tryz.prog 106 #[.slice a n cap,.int .i64 i] w (A0k (A1h L i) w):=by
 obtain⟨b,off,rfl,hbl,hk⟩:=hs.at i hi;obtain⟨q0,q1,q2,q3,q4⟩:=hk;rw[ht]at q0;obtain⟨r,hrr⟩:∃r,r=A1h L i:=⟨_,rfl⟩;rw[←hrr]
 have HRR:=Lib.hid (show r=(A0w ⟨0,(kAt L i).a,(kAt L i).b,(kAt L i).n,(kAt L i).s⟩&&(i==0||decide ((kAt L ((i:Int) -1)).tag=5)))from by
  rw[hrr];unfold A1h
  rw[show A1j L i=(i==0||decide ((kAt L ((i:Int) -1)).tag=5))from by unfold A1j;simp[ht],show A0w (kAt L i)=A0w ⟨0,(kAt L i).a,(kAt L i).b,(kAt L i).n,(kAt L i).s⟩from by unfold A0w;rw[ht]])
 clear hrr
 have HP:=Lib.hid (show i≠0→w.cell? ⟨b,off+(i-1)*5,none⟩=some (.int .i64 (kAt L ((i:Int) -1)).tag)∧((i-1:Nat):Int)=(i:Int) -1 from fun h0=>by
  obtain⟨b',off',he,_,hk⟩:=hs.at (i-1) (by omega)
  cases he
  have p0:=hk.c0;have hij:((i-1:Nat):Int)=(i:Int) -1:=by omega
  rw[hij]at p0;exact⟨p0,hij⟩)
 generalize(kAt L ((i:Int) -1)).tag=t1 at*;clear hs ht;generalize(kAt L i).a=ca at*;generalize(kAt L i).b=cb at*;generalize(kAt L i).n=cn at*;generalize(kAt L i).s=cs at*
 by_cases hs:cs=[]
 case' neg=>
  have es:cs.isEmpty=false:=by simp[hs]
  have HQ:=Lib.hid (show r=false by rw[HRR.out];unfold A0w;simp[hs]);clear hs;go_enter Tryz.func106,Tryz.ntmps106
  go_wp2_with fail
  go_ret;exact A0k.no HQ.out (A0e _ _)
 have es:cs.isEmpty=true:=by simp[hs]
 by_cases hn:cn=0
 case' neg=>
  have en:(cn !=0)=true:=by simp[hn]
  have HQ:=Lib.hid (show r=false by rw[HRR.out];unfold A0w;simp[hn]);clear hn;go_enter Tryz.func106,Tryz.ntmps106
  go_wp2_with fail
  go_ret;exact A0k.no HQ.out (A0e _ _)
 have en:(cn !=0)=false:=by simp[hn]
 by_cases hb:cb=0
 case' neg=>
  have eb:(cb !=0)=true:=by simp[hb]
  have HQ:=Lib.hid (show r=false by rw[HRR.out];unfold A0w;simp[hb]);clear hb;go_enter Tryz.func106,Tryz.ntmps106
  go_wp2_with fail
  go_ret;exact A0k.no HQ.out (A0e _ _)
 have eb:(cb !=0)=false:=by simp[hb]
 by_cases ha:ca=0
 case' neg=>
  have ea:(ca !=0)=true:=by simp[ha]
  have HQ:=Lib.hid (show r=false by rw[HRR.out];unfold A0w;simp[ha]);clear ha;go_enter Tryz.func106,Tryz.ntmps106
  go_wp2_with fail
  go_ret;exact A0k.no HQ.out (A0e _ _)
 have ea:(ca !=0)=false:=by simp[ha]
 have HB:=Lib.hid (show A0w ⟨0,ca,cb,cn,cs⟩=true by unfold A0w;simp[hs,hn,hb,ha]);rw[HB.out,Bool.true_and]at HRR;clear hs hn hb ha;by_cases h0:i=0
 ·have e0:((i:Int)==0)=true:=by simp[h0]
  have HQ:=Lib.hid (show r=true by rw[HRR.out];simp[h0]);clear h0 HP;go_enter Tryz.func106,Tryz.ntmps106
  go_wp2_with fail
  go_ret;exact A0k.yes HQ.out (A0e _ _)
 ·obtain⟨p0,hij⟩:=HP.out h0;have e0:((i:Int)==0)=false:=by simp;omega
  have i1:(1:Int)≤i:=by omega
  have i2:((i:Int) -1).toNat=i-1:=by omega
  have i3:(i:Int) -1<n:=by omega
  have HQ:=Lib.hid (show r=decide (t1=5) by rw[HRR.out];simp[h0]);clear HP h0 hij;by_cases h5:t1=5
  ·subst h5;go_enter Tryz.func106,Tryz.ntmps106
   go_wp2_with fail
   go_ret;exact A0k.yes (by rw[HQ.out];rfl) (A0e _ _)
  ·have e5:(t1==5)=false:=by simp[h5]
   have HQ2:=Lib.hid (show r=false by rw[HQ.out,decide_eq_false h5]);clear h5;go_enter Tryz.func106,Tryz.ntmps106
   go_wp2_with fail
   go_ret;exact A0k.no HQ2.out (A0e _ _)
theorem C7h(w:World)(a:Option Addr)(n cap:Nat)(L:List KV)(i:Nat)(hs:Ks w a n L)(hn:n≤65536)(hi:i<n)(ht:(kAt L i).tag=1)(hl:(kAt L i).s.length≤65536):Calls Tryz.prog 106 #[.slice a n cap,.int .i64 i] w (A0k (A1h L i) w):=by
 obtain⟨b,off,rfl,hbl,hk⟩:=hs.at i hi;obtain⟨q0,q1,q2,q3,q4⟩:=hk;rw[ht]at q0;obtain⟨r,hrr⟩:∃r,r=A1h L i:=⟨_,rfl⟩;rw[←hrr]
 have HRR:=Lib.hid (show r=(A0w ⟨1,(kAt L i).a,(kAt L i).b,(kAt L i).n,(kAt L i).s⟩&&((A3p (kAt L i).s).isSome&&decide ((kAt L i).s.length≤65535)))from by
  rw[hrr];unfold A1h
  rw[show A1j L i=((A3p (kAt L i).s).isSome&&decide ((kAt L i).s.length≤65535))from by unfold A1j;simp[ht],show A0w (kAt L i)=A0w ⟨1,(kAt L i).a,(kAt L i).b,(kAt L i).n,(kAt L i).s⟩from by unfold A0w;rw[ht]])
 clear hrr;obtain⟨c,w1,hr,hs1,hc1,hb1,hz1⟩:=B2x (w.alloc (.cells #[.int .i64 1,.int .i64 (kAt L i).a,.int .i64 (kAt L i).b,.int .i64 (kAt L i).n,.string ⟨(kAt L i).s.toArray⟩] 61)) (kAt L i).s
 have hz:(w.alloc (.cells #[.int .i64 1,.int .i64 (kAt L i).a,.int .i64 (kAt L i).b,.int .i64 (kAt L i).n,.string ⟨(kAt L i).s.toArray⟩] 61)).heap.size=w.heap.size+1:=by simp
 rw[hz]at hr hs1;clear hz;have CL:=B7i w1 _ (kAt L i).s.length c (kAt L i).s hs1 hl hc1;have HB1:=Lib.hid (show Below w.heap.size w w1 from(A0e _ _).trans (hb1.mono (by simp)))
 have HK1:=Lib.hid (A0f hb1 (cell_of_row (w.alloc (.cells #[.int .i64 1,.int .i64 (kAt L i).a,.int .i64 (kAt L i).b,.int .i64 (kAt L i).n,.string ⟨(kAt L i).s.toArray⟩] 61)) w.heap.size 4 _ _ _ (heap_alloc_last w _)))
 have HL:=Lib.hid CL;clear CL hs1 hc1 hb1 hz1 hl;clear hs ht;generalize(kAt L i).a=ca at*;generalize(kAt L i).b=cb at*;generalize(kAt L i).n=cn at*;generalize(kAt L i).s=cs at*
 by_cases hn:cn=0
 case' neg=>
  have en:(cn !=0)=true:=by simp[hn]
  have HQ:=Lib.hid (show r=false by rw[HRR.out];unfold A0w;simp[hn]);clear hn;go_enter Tryz.func106,Tryz.ntmps106
  go_wp2_with fail
  go_ret;exact A0k.no HQ.out (A0e _ _)
 have en:(cn !=0)=false:=by simp[hn]
 by_cases hb:cb=0
 case' neg=>
  have eb:(cb !=0)=true:=by simp[hb]
  have HQ:=Lib.hid (show r=false by rw[HRR.out];unfold A0w;simp[hb]);clear hb;go_enter Tryz.func106,Tryz.ntmps106
  go_wp2_with fail
  go_ret;exact A0k.no HQ.out (A0e _ _)
 have eb:(cb !=0)=false:=by simp[hb]
 by_cases ha:ca=0
 case' neg=>
  have ea:(ca !=0)=true:=by simp[ha]
  have HQ:=Lib.hid (show r=false by rw[HRR.out];unfold A0w;simp[ha]);clear ha;go_enter Tryz.func106,Tryz.ntmps106
  go_wp2_with fail
  go_ret;exact A0k.no HQ.out (A0e _ _)
 have ea:(ca !=0)=false:=by simp[ha]
 have HB:=Lib.hid (show A0w ⟨1,ca,cb,cn,cs⟩=true by unfold A0w;simp[hn,hb,ha]);rw[HB.out,Bool.true_and]at HRR;clear hn hb ha;go_enter Tryz.func106,Tryz.ntmps106
 go_wp2_with fail
 cases hd:A3p cs with
 |none=>
  rw[hd]at HRR HL;clear hd;refine HL.out.mono ?_;rintro e w2 ⟨rfl,hb2⟩;have HB2:=Lib.hid (HB1.out.trans (hb2.mono HB1.out.size))
  have c4:w2.cell? ⟨w.heap.size,4,none⟩=some (.string ⟨cs.toArray⟩):=A0f hb2 HK1.out;clear hb2 hr
  go_wp2_with fail
  go_ret;exact A0k.no (by rw[HRR.out];rfl) HB2.out
 |some us=>
  rw[hd]at HRR HL;clear hd;refine HL.out.mono ?_;rintro e w2 ⟨v2,m2,rfl,_,hb2⟩;have HB2:=Lib.hid (HB1.out.trans (hb2.mono HB1.out.size))
  have c4:w2.cell? ⟨w.heap.size,4,none⟩=some (.string ⟨cs.toArray⟩):=A0f hb2 HK1.out;clear hb2 hr;by_cases h6:cs.length≤65535
  ·have h7:decide ((cs.length:Int)≤65535)=true:=by simp;omega
   have H6:=Lib.hid (show r=true by rw[HRR.out,decide_eq_true h6];rfl)
   go_wp2_with fail
   go_ret;exact A0k.yes H6.out HB2.out
  ·have h7:decide ((cs.length:Int)≤65535)=false:=by simp;omega
   have H6:=Lib.hid (show r=false by rw[HRR.out,decide_eq_false h6];rfl)
   go_wp2_with fail
   go_ret;exact A0k.no H6.out HB2.out
theorem C7m(w:World)(a:Option Addr)(n cap:Nat)(L:List KV)(i:Nat)(hs:Ks w a n L)(hn:n≤65536)(hi:i<n)(ht:(kAt L i).tag=3):Calls Tryz.prog 106 #[.slice a n cap,.int .i64 i] w (A0k (A1h L i) w):=by
 obtain⟨b,off,rfl,hbl,hk⟩:=hs.at i hi;obtain⟨q0,q1,q2,q3,q4⟩:=hk;rw[ht]at q0;obtain⟨r,hrr⟩:∃r,r=A1h L i:=⟨_,rfl⟩;rw[←hrr]
 have HRR:=Lib.hid (show r=(A0w ⟨3,(kAt L i).a,(kAt L i).b,(kAt L i).n,(kAt L i).s⟩&&(true))from by
  rw[hrr];unfold A1h;rw[show A1j L i=(true)from by unfold A1j;simp[ht],show A0w (kAt L i)=A0w ⟨3,(kAt L i).a,(kAt L i).b,(kAt L i).n,(kAt L i).s⟩from by unfold A0w;rw[ht]])
 clear hrr;clear hs ht;generalize(kAt L i).a=ca at*;generalize(kAt L i).b=cb at*;generalize(kAt L i).n=cn at*;generalize(kAt L i).s=cs at*;by_cases hs:cs=[]
 case' neg=>
  have es:cs.isEmpty=false:=by simp[hs]
  have HQ:=Lib.hid (show r=false by rw[HRR.out];unfold A0w;simp[hs]);clear hs;go_enter Tryz.func106,Tryz.ntmps106
  go_wp2_with fail
  go_ret;exact A0k.no HQ.out (A0e _ _)
 have es:cs.isEmpty=true:=by simp[hs]
 by_cases hb:cb=0
 case' neg=>
  have eb:(cb !=0)=true:=by simp[hb]
  have HQ:=Lib.hid (show r=false by rw[HRR.out];unfold A0w;simp[hb]);clear hb;go_enter Tryz.func106,Tryz.ntmps106
  go_wp2_with fail
  go_ret;exact A0k.no HQ.out (A0e _ _)
 have eb:(cb !=0)=false:=by simp[hb]
 by_cases ha:ca=0
 case' neg=>
  have ea:(ca !=0)=true:=by simp[ha]
  have HQ:=Lib.hid (show r=false by rw[HRR.out];unfold A0w;simp[ha]);clear ha;go_enter Tryz.func106,Tryz.ntmps106
  go_wp2_with fail
  go_ret;exact A0k.no HQ.out (A0e _ _)
 have ea:(ca !=0)=false:=by simp[ha]
 by_cases h3: -2147483648≤cn∧cn≤2147483647
 ·have w3:IntKind.i32.wrap cn=cn:=by rw[IntKind.wrap_i32];omega
  have w5:IntKind.i64.wrap cn=cn:=by rw[IntKind.wrap_i64];omega
  have e3:(cn==cn)=true:=by simp
  have HQ:=Lib.hid (show r=true by rw[HRR.out];unfold A0w;simp[hs,hb,ha,h3]);clear h3 hs hb ha;go_enter Tryz.func106,Tryz.ntmps106
  go_wp2_with fail
  go_ret;exact A0k.yes HQ.out (A0e _ _)
 ·obtain⟨q,hq⟩:∃q,q=IntKind.i32.wrap cn:=⟨_,rfl⟩;have hq2:q≠cn:=by rw[hq,IntKind.wrap_i32];omega
  have w3:IntKind.i32.wrap cn=q:=hq.symm;have w4:IntKind.i64.wrap q=q:=by rw[hq,IntKind.wrap_i32,IntKind.wrap_i64];omega
  have e3:(cn==q)=false:=by simp;omega
  have HQ:=Lib.hid (show r=false by rw[HRR.out];unfold A0w;simp[hs,hb,ha];omega);clear h3 hs hb ha hq hq2;go_enter Tryz.func106,Tryz.ntmps106
  go_wp2_with fail
  go_ret;exact A0k.no HQ.out (A0e _ _)
theorem C5s(w:World)(a:Option Addr)(n cap:Nat)(L:List KV)(i:Nat)(hs:Ks w a n L)(hn:n≤65536)(hi:i<n)(ht:(kAt L i).tag=5):Calls Tryz.prog 106 #[.slice a n cap,.int .i64 i] w (A0k (A1h L i) w):=by
 obtain⟨b,off,rfl,hbl,hk⟩:=hs.at i hi;obtain⟨q0,q1,q2,q3,q4⟩:=hk;rw[ht]at q0;obtain⟨r,hrr⟩:∃r,r=A1h L i:=⟨_,rfl⟩;rw[←hrr]
 have HRR:=Lib.hid (show r=(A0w ⟨5,(kAt L i).a,(kAt L i).b,(kAt L i).n,(kAt L i).s⟩&&(decide (i+1<L.length)&&decide ((kAt L ((i:Int)+1)).tag=0)))from by
  rw[hrr];unfold A1h
  rw[show A1j L i=(decide (i+1<L.length)&&decide ((kAt L ((i:Int)+1)).tag=0))from by unfold A1j;simp[ht],show A0w (kAt L i)=A0w ⟨5,(kAt L i).a,(kAt L i).b,(kAt L i).n,(kAt L i).s⟩from by unfold A0w;rw[ht]])
 clear hrr
 have HP:=Lib.hid (show i+1<n→w.cell? ⟨b,off+(i+1)*5,none⟩=some (.int .i64 (kAt L ((i:Int)+1)).tag)from fun h1=>by
  obtain⟨b',off',he,_,hk⟩:=hs.at (i+1) h1
  cases he
  have p0:=hk.c0;rw[show((i+1:Nat):Int)=(i:Int)+1 by omega]at p0;exact p0)
 rw[hs.1]at HRR;generalize(kAt L ((i:Int)+1)).tag=t1 at*;clear hs ht;generalize(kAt L i).a=ca at*;generalize(kAt L i).b=cb at*;generalize(kAt L i).n=cn at*;generalize(kAt L i).s=cs at*
 by_cases hs:cs=[]
 case' neg=>
  have es:cs.isEmpty=false:=by simp[hs]
  have HQ:=Lib.hid (show r=false by rw[HRR.out];unfold A0w;simp[hs]);clear hs;go_enter Tryz.func106,Tryz.ntmps106
  go_wp2_with fail
  go_ret;exact A0k.no HQ.out (A0e _ _)
 have es:cs.isEmpty=true:=by simp[hs]
 by_cases hb:cb=0
 case' neg=>
  have eb:(cb !=0)=true:=by simp[hb]
  have HQ:=Lib.hid (show r=false by rw[HRR.out];unfold A0w;simp[hb]);clear hb;go_enter Tryz.func106,Tryz.ntmps106
  go_wp2_with fail
  go_ret;exact A0k.no HQ.out (A0e _ _)
 have eb:(cb !=0)=false:=by simp[hb]
 by_cases ha:ca=0
 case' neg=>
  have ea:(ca !=0)=true:=by simp[ha]
  have HQ:=Lib.hid (show r=false by rw[HRR.out];unfold A0w;simp[ha]);clear ha;go_enter Tryz.func106,Tryz.ntmps106
  go_wp2_with fail
  go_ret;exact A0k.no HQ.out (A0e _ _)
 have ea:(ca !=0)=false:=by simp[ha]
 have HB:=Lib.hid (show A0w ⟨5,ca,cb,cn,cs⟩=true by unfold A0w;simp[hs,hb,ha]);rw[HB.out,Bool.true_and]at HRR;clear hs hb ha;by_cases h1:i+1<n
 ·have p0:=HP.out h1;have e1:decide ((i:Int)+1<n)=true:=by simp;omega
  have i3:(i:Int)+1<n:=by omega
  have HQ:=Lib.hid (show r=decide (t1=0) by rw[HRR.out];simp[h1]);clear HP h1;by_cases h5:t1=0
  ·subst h5;go_enter Tryz.func106,Tryz.ntmps106
   go_wp2_with fail
   go_ret;exact A0k.yes (by rw[HQ.out];rfl) (A0e _ _)
  ·have e5:(t1==0)=false:=by simp[h5]
   have HQ2:=Lib.hid (show r=false by rw[HQ.out,decide_eq_false h5]);clear h5;go_enter Tryz.func106,Tryz.ntmps106
   go_wp2_with fail
   go_ret;exact A0k.no HQ2.out (A0e _ _)
 ·have e1:decide ((i:Int)+1<n)=false:=by simp;omega
  have HQ:=Lib.hid (show r=false by rw[HRR.out];simp[h1]);clear HP h1;go_enter Tryz.func106,Tryz.ntmps106
  go_wp2_with fail
  go_ret;exact A0k.no HQ.out (A0e _ _)
theorem C6f(w:World)(a:Option Addr)(n cap:Nat)(L:List KV)(i:Nat)(hs:Ks w a n L)(hn:n≤65536)(hi:i<n)(ht:(kAt L i).tag=7):Calls Tryz.prog 106 #[.slice a n cap,.int .i64 i] w (A0k (A1h L i) w):=by
 obtain⟨b,off,rfl,hbl,hk⟩:=hs.at i hi;obtain⟨q0,q1,q2,q3,q4⟩:=hk;rw[ht]at q0;obtain⟨r,hrr⟩:∃r,r=A1h L i:=⟨_,rfl⟩;rw[←hrr]
 have HRR:=Lib.hid (show r=(A0w ⟨7,(kAt L i).a,(kAt L i).b,(kAt L i).n,(kAt L i).s⟩&&(isT L (kAt L i).a 1))from by
  rw[hrr];unfold A1h
  rw[show A1j L i=(isT L (kAt L i).a 1)from by unfold A1j;simp[ht],show A0w (kAt L i)=A0w ⟨7,(kAt L i).a,(kAt L i).b,(kAt L i).n,(kAt L i).s⟩from by unfold A0w;rw[ht]])
 clear hrr
 have C1:=Lib.hid (A4h (w.alloc (.cells #[.int .i64 7,.int .i64 (kAt L i).a,.int .i64 (kAt L i).b,.int .i64 (kAt L i).n,.string ⟨(kAt L i).s.toArray⟩] 61)) _ n cap L (kAt L i).a 1 (hs.below (A0e _ _)) hn)
 generalize isT L (kAt L i).a 1=r1 at*;clear hs ht;generalize(kAt L i).a=ca at*;generalize(kAt L i).b=cb at*;generalize(kAt L i).n=cn at*;generalize(kAt L i).s=cs at*;by_cases hs:cs=[]
 case' neg=>
  have es:cs.isEmpty=false:=by simp[hs]
  have HQ:=Lib.hid (show r=false by rw[HRR.out];unfold A0w;simp[hs]);clear hs;go_enter Tryz.func106,Tryz.ntmps106
  go_wp2_with fail
  go_ret;exact A0k.no HQ.out (A0e _ _)
 have es:cs.isEmpty=true:=by simp[hs]
 by_cases hn:cn=0
 case' neg=>
  have en:(cn !=0)=true:=by simp[hn]
  have HQ:=Lib.hid (show r=false by rw[HRR.out];unfold A0w;simp[hn]);clear hn;go_enter Tryz.func106,Tryz.ntmps106
  go_wp2_with fail
  go_ret;exact A0k.no HQ.out (A0e _ _)
 have en:(cn !=0)=false:=by simp[hn]
 by_cases hb:cb=0
 case' neg=>
  have eb:(cb !=0)=true:=by simp[hb]
  have HQ:=Lib.hid (show r=false by rw[HRR.out];unfold A0w;simp[hb]);clear hb;go_enter Tryz.func106,Tryz.ntmps106
  go_wp2_with fail
  go_ret;exact A0k.no HQ.out (A0e _ _)
 have eb:(cb !=0)=false:=by simp[hb]
 have HB:=Lib.hid (show A0w ⟨7,ca,cb,cn,cs⟩=true by unfold A0w;simp[hs,hn,hb]);rw[HB.out,Bool.true_and]at HRR;clear hs hn hb;go_enter Tryz.func106,Tryz.ntmps106
 go_wp2_with fail
 refine C1.out.mono ?_;rintro e w' ⟨rfl,rfl⟩
 go_wp2_with fail
 go_ret;exact A0k.is HRR.out (A0e _ _)
theorem C5w(w:World)(a:Option Addr)(n cap:Nat)(L:List KV)(i:Nat)(hs:Ks w a n L)(hn:n≤65536)(hi:i<n)(ht:(kAt L i).tag=8):Calls Tryz.prog 106 #[.slice a n cap,.int .i64 i] w (A0k (A1h L i) w):=by
 obtain⟨b,off,rfl,hbl,hk⟩:=hs.at i hi;obtain⟨q0,q1,q2,q3,q4⟩:=hk;rw[ht]at q0;obtain⟨r,hrr⟩:∃r,r=A1h L i:=⟨_,rfl⟩;rw[←hrr]
 have HRR:=Lib.hid (show r=(A0w ⟨8,(kAt L i).a,(kAt L i).b,(kAt L i).n,(kAt L i).s⟩&&(isT L (kAt L i).a 1))from by
  rw[hrr];unfold A1h
  rw[show A1j L i=(isT L (kAt L i).a 1)from by unfold A1j;simp[ht],show A0w (kAt L i)=A0w ⟨8,(kAt L i).a,(kAt L i).b,(kAt L i).n,(kAt L i).s⟩from by unfold A0w;rw[ht]])
 clear hrr
 have C1:=Lib.hid (A4h (w.alloc (.cells #[.int .i64 8,.int .i64 (kAt L i).a,.int .i64 (kAt L i).b,.int .i64 (kAt L i).n,.string ⟨(kAt L i).s.toArray⟩] 61)) _ n cap L (kAt L i).a 1 (hs.below (A0e _ _)) hn)
 generalize isT L (kAt L i).a 1=r1 at*;clear hs ht;generalize(kAt L i).a=ca at*;generalize(kAt L i).b=cb at*;generalize(kAt L i).n=cn at*;generalize(kAt L i).s=cs at*;by_cases hs:cs=[]
 case' neg=>
  have es:cs.isEmpty=false:=by simp[hs]
  have HQ:=Lib.hid (show r=false by rw[HRR.out];unfold A0w;simp[hs]);clear hs;go_enter Tryz.func106,Tryz.ntmps106
  go_wp2_with fail
  go_ret;exact A0k.no HQ.out (A0e _ _)
 have es:cs.isEmpty=true:=by simp[hs]
 by_cases hn:cn=0
 case' neg=>
  have en:(cn !=0)=true:=by simp[hn]
  have HQ:=Lib.hid (show r=false by rw[HRR.out];unfold A0w;simp[hn]);clear hn;go_enter Tryz.func106,Tryz.ntmps106
  go_wp2_with fail
  go_ret;exact A0k.no HQ.out (A0e _ _)
 have en:(cn !=0)=false:=by simp[hn]
 by_cases hb:cb=0
 case' neg=>
  have eb:(cb !=0)=true:=by simp[hb]
  have HQ:=Lib.hid (show r=false by rw[HRR.out];unfold A0w;simp[hb]);clear hb;go_enter Tryz.func106,Tryz.ntmps106
  go_wp2_with fail
  go_ret;exact A0k.no HQ.out (A0e _ _)
 have eb:(cb !=0)=false:=by simp[hb]
 have HB:=Lib.hid (show A0w ⟨8,ca,cb,cn,cs⟩=true by unfold A0w;simp[hs,hn,hb]);rw[HB.out,Bool.true_and]at HRR;clear hs hn hb;go_enter Tryz.func106,Tryz.ntmps106
 go_wp2_with fail
 refine C1.out.mono ?_;rintro e w' ⟨rfl,rfl⟩
 go_wp2_with fail
 go_ret;exact A0k.is HRR.out (A0e _ _)
theorem C1y(w:World)(a:Option Addr)(n cap:Nat)(L:List KV)(i:Nat)(hs:Ks w a n L)(hn:n≤65536)(hi:i<n)(ht:(kAt L i).tag=12):Calls Tryz.prog 106 #[.slice a n cap,.int .i64 i] w (A0k (A1h L i) w):=by
 obtain⟨b,off,rfl,hbl,hk⟩:=hs.at i hi;obtain⟨q0,q1,q2,q3,q4⟩:=hk;rw[ht]at q0;obtain⟨r,hrr⟩:∃r,r=A1h L i:=⟨_,rfl⟩;rw[←hrr]
 have HRR:=Lib.hid (show r=(A0w ⟨12,(kAt L i).a,(kAt L i).b,(kAt L i).n,(kAt L i).s⟩&&(isT L (kAt L i).a 1&&isT L (kAt L i).b 1))from by
  rw[hrr];unfold A1h
  rw[show A1j L i=(isT L (kAt L i).a 1&&isT L (kAt L i).b 1)from by unfold A1j;simp[ht],show A0w (kAt L i)=A0w ⟨12,(kAt L i).a,(kAt L i).b,(kAt L i).n,(kAt L i).s⟩from by unfold A0w;rw[ht]])
 clear hrr
 have C1:=Lib.hid (A4h (w.alloc (.cells #[.int .i64 12,.int .i64 (kAt L i).a,.int .i64 (kAt L i).b,.int .i64 (kAt L i).n,.string ⟨(kAt L i).s.toArray⟩] 61)) _ n cap L (kAt L i).a 1 (hs.below (A0e _ _)) hn)
 have C2:=Lib.hid (A4h (w.alloc (.cells #[.int .i64 12,.int .i64 (kAt L i).a,.int .i64 (kAt L i).b,.int .i64 (kAt L i).n,.string ⟨(kAt L i).s.toArray⟩] 61)) _ n cap L (kAt L i).b 1 (hs.below (A0e _ _)) hn)
 generalize isT L (kAt L i).a 1=r1 at*;generalize isT L (kAt L i).b 1=r2 at*;clear hs ht;generalize(kAt L i).a=ca at*;generalize(kAt L i).b=cb at*;generalize(kAt L i).n=cn at*
 generalize(kAt L i).s=cs at*;by_cases hs:cs=[]
 case' neg=>
  have es:cs.isEmpty=false:=by simp[hs]
  have HQ:=Lib.hid (show r=false by rw[HRR.out];unfold A0w;simp[hs]);clear hs;go_enter Tryz.func106,Tryz.ntmps106
  go_wp2_with fail
  go_ret;exact A0k.no HQ.out (A0e _ _)
 have es:cs.isEmpty=true:=by simp[hs]
 by_cases hn:cn=0
 case' neg=>
  have en:(cn !=0)=true:=by simp[hn]
  have HQ:=Lib.hid (show r=false by rw[HRR.out];unfold A0w;simp[hn]);clear hn;go_enter Tryz.func106,Tryz.ntmps106
  go_wp2_with fail
  go_ret;exact A0k.no HQ.out (A0e _ _)
 have en:(cn !=0)=false:=by simp[hn]
 have HB:=Lib.hid (show A0w ⟨12,ca,cb,cn,cs⟩=true by unfold A0w;simp[hs,hn]);rw[HB.out,Bool.true_and]at HRR;clear hs hn
 cases r1
 ·go_enter Tryz.func106,Tryz.ntmps106
  go_wp2_with fail
  refine C1.out.mono ?_;rintro e w' ⟨rfl,rfl⟩
  go_wp2_with fail
  go_ret;exact A0k.no (by rw[HRR.out];rfl) (A0e _ _)
 ·go_enter Tryz.func106,Tryz.ntmps106
  go_wp2_with fail
  refine C1.out.mono ?_;rintro e w' ⟨rfl,rfl⟩
  go_wp2_with fail
  refine C2.out.mono ?_;rintro e w' ⟨rfl,rfl⟩
  go_wp2_with fail
  go_ret;exact A0k.is (by rw[HRR.out];rfl) (A0e _ _)
theorem C5f(w:World)(a:Option Addr)(n cap:Nat)(L:List KV)(i:Nat)(hs:Ks w a n L)(hn:n≤65536)(hi:i<n)(ht:(kAt L i).tag=9):Calls Tryz.prog 106 #[.slice a n cap,.int .i64 i] w (A0k (A1h L i) w):=by
 obtain⟨b,off,rfl,hbl,hk⟩:=hs.at i hi;obtain⟨q0,q1,q2,q3,q4⟩:=hk;rw[ht]at q0;obtain⟨r,hrr⟩:∃r,r=A1h L i:=⟨_,rfl⟩;rw[←hrr]
 have HRR:=Lib.hid (show r=(A0w ⟨9,(kAt L i).a,(kAt L i).b,(kAt L i).n,(kAt L i).s⟩&&(isT L (kAt L i).a 7&&isT L (kAt L i).b 12))from by
  rw[hrr];unfold A1h
  rw[show A1j L i=(isT L (kAt L i).a 7&&isT L (kAt L i).b 12)from by unfold A1j;simp[ht],show A0w (kAt L i)=A0w ⟨9,(kAt L i).a,(kAt L i).b,(kAt L i).n,(kAt L i).s⟩from by unfold A0w;rw[ht]])
 clear hrr
 have C1:=Lib.hid (A4h (w.alloc (.cells #[.int .i64 9,.int .i64 (kAt L i).a,.int .i64 (kAt L i).b,.int .i64 (kAt L i).n,.string ⟨(kAt L i).s.toArray⟩] 61)) _ n cap L (kAt L i).a 7 (hs.below (A0e _ _)) hn)
 have C2:=Lib.hid (A4h (w.alloc (.cells #[.int .i64 9,.int .i64 (kAt L i).a,.int .i64 (kAt L i).b,.int .i64 (kAt L i).n,.string ⟨(kAt L i).s.toArray⟩] 61)) _ n cap L (kAt L i).b 12 (hs.below (A0e _ _)) hn)
 generalize isT L (kAt L i).a 7=r1 at*;generalize isT L (kAt L i).b 12=r2 at*;clear hs ht;generalize(kAt L i).a=ca at*;generalize(kAt L i).b=cb at*;generalize(kAt L i).n=cn at*
 generalize(kAt L i).s=cs at*;by_cases hs:cs=[]
 case' neg=>
  have es:cs.isEmpty=false:=by simp[hs]
  have HQ:=Lib.hid (show r=false by rw[HRR.out];unfold A0w;simp[hs]);clear hs;go_enter Tryz.func106,Tryz.ntmps106
  go_wp2_with fail
  go_ret;exact A0k.no HQ.out (A0e _ _)
 have es:cs.isEmpty=true:=by simp[hs]
 by_cases hn:cn=0
 case' neg=>
  have en:(cn !=0)=true:=by simp[hn]
  have HQ:=Lib.hid (show r=false by rw[HRR.out];unfold A0w;simp[hn]);clear hn;go_enter Tryz.func106,Tryz.ntmps106
  go_wp2_with fail
  go_ret;exact A0k.no HQ.out (A0e _ _)
 have en:(cn !=0)=false:=by simp[hn]
 have HB:=Lib.hid (show A0w ⟨9,ca,cb,cn,cs⟩=true by unfold A0w;simp[hs,hn]);rw[HB.out,Bool.true_and]at HRR;clear hs hn
 cases r1
 ·go_enter Tryz.func106,Tryz.ntmps106
  go_wp2_with fail
  refine C1.out.mono ?_;rintro e w' ⟨rfl,rfl⟩
  go_wp2_with fail
  go_ret;exact A0k.no (by rw[HRR.out];rfl) (A0e _ _)
 ·go_enter Tryz.func106,Tryz.ntmps106
  go_wp2_with fail
  refine C1.out.mono ?_;rintro e w' ⟨rfl,rfl⟩
  go_wp2_with fail
  refine C2.out.mono ?_;rintro e w' ⟨rfl,rfl⟩
  go_wp2_with fail
  go_ret;exact A0k.is (by rw[HRR.out];rfl) (A0e _ _)
theorem C1k(w:World)(a:Option Addr)(n cap:Nat)(L:List KV)(i:Nat)(hs:Ks w a n L)(hn:n≤65536)(hi:i<n)(ht:(kAt L i).tag=10):Calls Tryz.prog 106 #[.slice a n cap,.int .i64 i] w (A0k (A1h L i) w):=by
 obtain⟨b,off,rfl,hbl,hk⟩:=hs.at i hi;obtain⟨q0,q1,q2,q3,q4⟩:=hk;rw[ht]at q0;obtain⟨r,hrr⟩:∃r,r=A1h L i:=⟨_,rfl⟩;rw[←hrr]
 have HRR:=Lib.hid (show r=(A0w ⟨10,(kAt L i).a,(kAt L i).b,(kAt L i).n,(kAt L i).s⟩&&(isT L (kAt L i).a 7&&isT L (kAt L i).b 12))from by
  rw[hrr];unfold A1h
  rw[show A1j L i=(isT L (kAt L i).a 7&&isT L (kAt L i).b 12)from by unfold A1j;simp[ht],show A0w (kAt L i)=A0w ⟨10,(kAt L i).a,(kAt L i).b,(kAt L i).n,(kAt L i).s⟩from by unfold A0w;rw[ht]])
 clear hrr
 have C1:=Lib.hid (A4h (w.alloc (.cells #[.int .i64 10,.int .i64 (kAt L i).a,.int .i64 (kAt L i).b,.int .i64 (kAt L i).n,.string ⟨(kAt L i).s.toArray⟩] 61)) _ n cap L (kAt L i).a 7 (hs.below (A0e _ _)) hn)
 have C2:=Lib.hid (A4h (w.alloc (.cells #[.int .i64 10,.int .i64 (kAt L i).a,.int .i64 (kAt L i).b,.int .i64 (kAt L i).n,.string ⟨(kAt L i).s.toArray⟩] 61)) _ n cap L (kAt L i).b 12 (hs.below (A0e _ _)) hn)
 generalize isT L (kAt L i).a 7=r1 at*;generalize isT L (kAt L i).b 12=r2 at*;clear hs ht;generalize(kAt L i).a=ca at*;generalize(kAt L i).b=cb at*;generalize(kAt L i).n=cn at*
 generalize(kAt L i).s=cs at*;by_cases hs:cs=[]
 case' neg=>
  have es:cs.isEmpty=false:=by simp[hs]
  have HQ:=Lib.hid (show r=false by rw[HRR.out];unfold A0w;simp[hs]);clear hs;go_enter Tryz.func106,Tryz.ntmps106
  go_wp2_with fail
  go_ret;exact A0k.no HQ.out (A0e _ _)
 have es:cs.isEmpty=true:=by simp[hs]
 by_cases hn:cn=0
 case' neg=>
  have en:(cn !=0)=true:=by simp[hn]
  have HQ:=Lib.hid (show r=false by rw[HRR.out];unfold A0w;simp[hn]);clear hn;go_enter Tryz.func106,Tryz.ntmps106
  go_wp2_with fail
  go_ret;exact A0k.no HQ.out (A0e _ _)
 have en:(cn !=0)=false:=by simp[hn]
 have HB:=Lib.hid (show A0w ⟨10,ca,cb,cn,cs⟩=true by unfold A0w;simp[hs,hn]);rw[HB.out,Bool.true_and]at HRR;clear hs hn
 cases r1
 ·go_enter Tryz.func106,Tryz.ntmps106
  go_wp2_with fail
  refine C1.out.mono ?_;rintro e w' ⟨rfl,rfl⟩
  go_wp2_with fail
  go_ret;exact A0k.no (by rw[HRR.out];rfl) (A0e _ _)
 ·go_enter Tryz.func106,Tryz.ntmps106
  go_wp2_with fail
  refine C1.out.mono ?_;rintro e w' ⟨rfl,rfl⟩
  go_wp2_with fail
  refine C2.out.mono ?_;rintro e w' ⟨rfl,rfl⟩
  go_wp2_with fail
  go_ret;exact A0k.is (by rw[HRR.out];rfl) (A0e _ _)
theorem B8b(w:World)(a:Option Addr)(n cap:Nat)(L:List KV)(i:Nat)(hs:Ks w a n L)(hn:n≤65536)(hi:i<n)(h0:(kAt L i).tag≠0)(h1:(kAt L i).tag≠1)(h3:(kAt L i).tag≠3)(h5:(kAt L i).tag≠5)(h12:(kAt L i).tag≠12)(h7:(kAt L i).tag≠7)(h8:(kAt L i).tag≠8)(h9:(kAt L i).tag≠9)(h10:(kAt L i).tag≠10):Calls Tryz.prog 106 #[.slice a n cap,.int .i64 i] w (A0k (A1h L i) w):=by
 obtain⟨b,off,rfl,hbl,hk⟩:=hs.at i hi;obtain⟨q0,q1,q2,q3,q4⟩:=hk;rw[show A1h L i=false from by unfold A1h A1j;simp[h0,h1,h3,h5,h12,h7,h8,h9,h10]];clear hs
 generalize(kAt L i).tag=t at*;generalize(kAt L i).a=ca at*;generalize(kAt L i).b=cb at*;generalize(kAt L i).n=cn at*;generalize(kAt L i).s=cs at*;have e0:(t==0)=false:=by simp[h0]
 have e1:(t==1)=false:=by simp[h1]
 have e3:(t==3)=false:=by simp[h3]
 have e5:(t==5)=false:=by simp[h5]
 have e12:(t==12)=false:=by simp[h12]
 have e7:(t==7)=false:=by simp[h7]
 have e8:(t==8)=false:=by simp[h8]
 have e9:(t==9)=false:=by simp[h9]
 have e10:(t==10)=false:=by simp[h10]
 have z1:(t !=1)=true:=by simp[h1]
 have z3:(t !=3)=true:=by simp[h3]
 have z5:(t !=5)=true:=by simp[h5]
 clear h0 h1 h3 h5 h12 h7 h8 h9 h10;obtain⟨s1,e20⟩:∃x,cs.isEmpty=x:=⟨_,rfl⟩;obtain⟨s2,e21⟩:∃x,(cn !=0)=x:=⟨_,rfl⟩;obtain⟨s3,e22⟩:∃x,(cb !=0)=x:=⟨_,rfl⟩
 obtain⟨s4,e23⟩:∃x,(ca !=0)=x:=⟨_,rfl⟩
 cases s1
 ·go_enter Tryz.func106,Tryz.ntmps106
  go_wp2_with fail
  go_ret;exact⟨rfl,A0e _ _⟩
 cases s2
 case' true=>
  go_enter Tryz.func106,Tryz.ntmps106
  go_wp2_with fail
  go_ret;exact⟨rfl,A0e _ _⟩
 cases s3
 case' true=>
  go_enter Tryz.func106,Tryz.ntmps106
  go_wp2_with fail
  go_ret;exact⟨rfl,A0e _ _⟩
 cases s4
 all_goals
  go_enter Tryz.func106,Tryz.ntmps106
  go_wp2_with fail
  go_ret;exact⟨rfl,A0e _ _⟩
theorem B9s(w:World)(a:Option Addr)(n cap:Nat)(L:List KV)(i:Nat)(hs:Ks w a n L)(hn:n≤65536)(hi:i<n)(hl:(kAt L i).s.length≤65536):Calls Tryz.prog 106 #[.slice a n cap,.int .i64 i] w (A0k (A1h L i) w):=by
 by_cases h0:(kAt L i).tag=0
 ·exact C6b w a n cap L i hs hn hi h0
 by_cases h1:(kAt L i).tag=1
 ·exact C7h w a n cap L i hs hn hi h1 hl
 by_cases h3:(kAt L i).tag=3
 ·exact C7m w a n cap L i hs hn hi h3
 by_cases h5:(kAt L i).tag=5
 ·exact C5s w a n cap L i hs hn hi h5
 by_cases h12:(kAt L i).tag=12
 ·exact C1y w a n cap L i hs hn hi h12
 by_cases h7:(kAt L i).tag=7
 ·exact C6f w a n cap L i hs hn hi h7
 by_cases h8:(kAt L i).tag=8
 ·exact C5w w a n cap L i hs hn hi h8
 by_cases h9:(kAt L i).tag=9
 ·exact C5f w a n cap L i hs hn hi h9
 by_cases h10:(kAt L i).tag=10
 ·exact C1k w a n cap L i hs hn hi h10
 exact B8b w a n cap L i hs hn hi h0 h1 h3 h5 h12 h7 h8 h9 h10
theorem C0u(w:World)(a:Option Addr)(n cap:Nat)(L:List KV)(hs:Ks w a n L)(hn:n≤65536)(hl:∀i:Nat,i<n→(kAt L i).s.length≤65536):Calls Tryz.prog 58 #[.slice a n cap] w (A0k (A5a L) w):=by
 have hL:=hs.1;by_cases h0:n=0
 ·subst h0;have HR:=Lib.hid (B0i (L:=L) (.inl hL));clear hs hl;go_enter Tryz.func58,Tryz.ntmps58
  go_wp2_with fail
  go_ret;exact A0k.no HR.out (Below.refl _ _)
 ·by_cases hm:1024<n
  ·have HR:=Lib.hid (B0i (L:=L) (.inr (by omega)));have e0:decide ((n:Int)<1)=false:=by simp;omega
   have e1:decide ((1024:Int)<n)=true:=by simp;omega
   clear hs hl h0 hL;go_enter Tryz.func58,Tryz.ntmps58
   go_wp2_with fail
   go_ret;exact A0k.no HR.out (Below.refl _ _)
  ·obtain⟨b,off,rfl,hbl,hk⟩:=hs.at 0 (by omega);have p0:=hk.c0;simp only[Nat.zero_mul,Nat.add_zero]at p0;have e0:decide ((n:Int)<1)=false:=by simp;omega
   have e1:decide ((1024:Int)<n)=false:=by simp;omega
   have z0:0<n:=by omega
   by_cases ht:(kAt L 0).tag=0
   ·have p0':w.cell? ⟨b,off,none⟩=some (.int .i64 0):=by rw[p0];rw[←ht];rfl
    have HS:=Lib.hid hs;have HT:=Lib.hid ht;have HLn:=Lib.hid hL;have HL:=Lib.hid hl;clear hk p0 hs ht hl hL;go_enter Tryz.func58,Tryz.ntmps58
    go_wp2_with fail
    clear p0'
    go_loopg [21] n (fun gn i wr=>∃j:Nat,j≤n∧gn=n-j∧i= .int .i64 j∧Hid (∀k,k<j→A1h L k=true)∧Hid (Below w.heap.size w wr))
    case atStart=>exact⟨0,by omega,by omega,by go_num,Lib.hid (fun k h=>by omega),Lib.hid (Below.refl _ _)⟩
    case round=>
     obtain⟨j,hj,rfl,rfl,HP,HB⟩:=hrel;by_cases hlt:j<n
     ·have HCL:=Lib.hid (B9s _ (some ⟨b,off,none⟩) n cap L j (HS.out.below HB.out) hn hlt (HL.out j hlt));have HPB:=Lib.hid (B6x (L:=L) j (by rw[HLn.out];exact hlt))
      have HNX:=Lib.hid (show A1h L j=true→∀k,k<j+1→A1h L k=true from fun h k hk=>by
       rcases Nat.lt_or_ge k j with h1|h1
       ·exact HP.out k h1
       ·obtain rfl:k=j:=by omega
        exact h)
      have j1:(j:Int)<n:=by omega
      generalize A1h L j=ok at*
      go_wp2_with fail
      refine HCL.out.mono ?_;rintro e w3 ⟨rfl,hb3⟩;have HB3:=Lib.hid (HB.out.trans (hb3.mono HB.out.size));clear hb3
      cases ok
      ·have HR:=Lib.hid (HPB.out rfl)
       go_wp2_with fail
       go_ret;exact A0k.no HR.out HB3.out
      ·have HN:=Lib.hid (HNX.out rfl)
       go_wp2_with fail
       go_roundg (n-(j+1))
       case measure=>omega
       case rel=>exact⟨j+1,by omega,rfl,by go_num,HN,HB3⟩
     ·obtain rfl:j=n:=by omega
      have HR:=Lib.hid (B4w (L:=L) (by rw[HLn.out];omega) (by rw[HLn.out];omega) HT.out (by rw[HLn.out];exact HP.out))
      go_wp2_with fail
      go_ret;exact A0k.yes HR.out HB.out
   ·have HR:=Lib.hid (B6e (L:=L) ht);have p1:(kAt L ((0:Nat):Int)).tag=(kAt L 0).tag:=rfl;rw[p1]at p0;generalize(kAt L 0).tag=t at*;have et:(t !=0)=true:=by simp[ht]
    clear hk hs hl ht p1;go_enter Tryz.func58,Tryz.ntmps58
    go_wp2_with fail
    go_ret;exact A0k.no HR.out (Below.refl _ _)
end
end Go.Proofs.YtclpkipaehpkdaaGreatDoor
