/- asm -/
import Derived.Test.YtclpkipaehpkdaaGreatDoorQ02AsmMade
import Derived.Test.YtclpkipaehpkdaaGreatDoorQ04AsmMade
import Derived.Test.YtclpkipaehpkdaaGreatDoorQ03AsmMade
set_option linter.unusedVariables false
set_option linter.unusedSimpArgs false
set_option maxRecDepth 100000
set_option maxHeartbeats 64000000
namespace Go.Proofs.YtclpkipaehpkdaaGreatDoor
section
theorem tkF{P:Program}{ops:Array Oper}{Q:Exit->Act->World->Prop}{S:World->Prop}{i:Nat}{o:Oper}{K:Act->World->Prop}{a:Act}{w:World}{v:Value}(h:K (a.put o.dst v) w)(ho:ops[i]? =some o:=by rfl)(hw:Region.wanted o (yielded ops a.tmps)=true:=by rfl)
  (hv:∀w',S w'->(execOp a.eval o).run P w'= .ok (.value v) w':=by(intro w' hS';first|(go_simp<;>with_reducible rfl)|(go_simp;go_bits;with_reducible rfl))) (hS:S w:=by assumption):A4n P ops Q S i true K a w:=D1x ho hw v hv hS h
theorem alF{P:Program}{ops:Array Oper}{Q:Exit->Act->World->Prop}{S:World->Prop}{i:Nat}{o:Oper}{K:Act->World->Prop}{a:Act}{w:World}(h:o.wp P a w (fun a' w'=>S w'/\K a' w') Q)(ho:ops[i]? =some o:=by rfl)(hw:Region.wanted o (yielded ops a.tmps)=true:=by rfl):A4n P ops Q S i false K a w:=C7f ho hw h
theorem skF{P:Program}{ops:Array Oper}{Q:Exit->Act->World->Prop}{S:World->Prop}{i:Nat}{b:Bool}{o:Oper}{K:Act->World->Prop}{a:Act}{w:World}(h:K (a.put o.dst undef) w)(ho:ops[i]? =some o:=by rfl)(hw:Region.wanted o (yielded ops a.tmps)=false:=by rfl)(hS:S w:=by assumption):A4n P ops Q S i b K a w:=D3v ho hw hS h
theorem tkX{P:Program}{ops:Array Oper}{S:World->Prop}{i:Nat}{o:Oper}{K:Act->Prop}{a:Act}{v:Value}(h:K (a.put o.dst v))(ho:ops[i]? =some o:=by rfl)(hw:Region.wanted o (yielded ops a.tmps)=true:=by rfl)
  (hv:∀w',S w'->(execOp a.eval o).run P w'= .ok (.value v) w':=by(intro w' hS';first|(go_simp<;>with_reducible rfl)|(go_simp;go_bits;with_reducible rfl))):A2c P ops S i true K a:=by
 unfold A2c;rw[ho];simp only[];rw[if_pos hw];exact⟨v,hv,h⟩
theorem skX{P:Program}{ops:Array Oper}{S:World->Prop}{i:Nat}{b:Bool}{o:Oper}{K:Act->Prop}{a:Act}(h:K (a.put o.dst undef))(ho:ops[i]? =some o:=by rfl)(hw:Region.wanted o (yielded ops a.tmps)=false:=by rfl):A2c P ops S i b K a:=by
 unfold A2c;rw[ho];simp only[];rw[if_neg (by rw[hw];decide)];exact h
theorem laF{P:Program}{ops:Array Oper}{Q:Exit->Act->World->Prop}{n:Nat}{o:Oper}{a:Act}{w:World}(h:o.wp P a w (fun a' w'=>Q .normal a' w') Q)(ho:ops[n]? =some o:=by rfl)(hw:Region.wanted o (yielded ops a.tmps)=true:=by rfl):B5v P ops Q n a w:=by
 unfold B5v;rw[ho];simp only[];rw[if_pos hw];exact h
end
section
open Go.ChangeShapes Go.WideShapes Go.ChangeAt Go.RowKit
def B0b(w:World)(g:Nat)(p:Int)(k:Nat)(x y:Int):Prop:=w.heap[g]? =some (.cells #[.int .i64 p,.int .u8 (k:Nat),.int .i64 x,.int .i64 y] 118)
theorem B0b.below{w w':World}{g:Nat}{p:Int}{k:Nat}{x y:Int}(h:B0b w g p k x y)(hb:Below w.heap.size w w'):B0b w' g p k x y:=by
 unfold B0b;rw[hb.block g (Array.getElem?_eq_some_iff.1 h).1];exact h
theorem B0b.box{w:World}{g:Nat}{p:Int}{k:Nat}{x y:Int}(h:B0b w g p k x y):(w.cell? ⟨g,0,none⟩=some (.int .i64 p)/\w.cell? ⟨g,1,none⟩=some (.int .u8 (k:Nat))/\w.cell? ⟨g,2,none⟩=some (.int .i64 x)/\w.cell? ⟨g,3,none⟩=some (.int .i64 y))/\
  (w.frozen? ⟨g,2,none⟩=false/\w.frozen? ⟨g,3,none⟩=false)/\g<w.heap.size:=by
 refine⟨⟨?_,?_,?_,?_⟩,⟨?_,?_⟩,(Array.getElem?_eq_some_iff.1 h).1⟩
 ·rw[cell_of_row w g 0 _ _ _ h];rfl
 ·rw[cell_of_row w g 1 _ _ _ h];rfl
 ·rw[cell_of_row w g 2 _ _ _ h];rfl
 ·rw[cell_of_row w g 3 _ _ _ h];rfl
 all_goals (unfold World.frozen?;rw[h];rfl)
theorem B0b.set2{w:World}{g:Nat}{p:Int}{k:Nat}{x y x':Int}(h:B0b w g p k x y):B0b (w.setCell ⟨g,2,none⟩ (.int .i64 x')) g p k x' y:=B4d h 2 _
theorem B0b.set3{w:World}{g:Nat}{p:Int}{k:Nat}{x y y':Int}(h:B0b w g p k x y):B0b (w.setCell ⟨g,3,none⟩ (.int .i64 y')) g p k x y':=B4d h 3 _
theorem A3y{w w':World}{g o:Nat}{v:Value}(h:w.grownBy w' (some g)):w.grownBy (w'.setCell ⟨g,o,none⟩ v) (some g):=
 ⟨h.os,h.tape,h.output,by rw[B7u];exact h.size,fun k hk hne=>by rw[B1a (fun e=>hne (by rw[e]))];exact h.block k hk hne⟩
theorem A2j{w w':World}{row:Option Nat}(h:Below w.heap.size w w'):w.grownBy w' row:=⟨h.os,h.tape,h.output,h.size,fun k hk _=>h.block k hk⟩
theorem B1w{w w':World}{r:Option Nat}(h:w.grownBy w' r):w.grownBy w'.drew r:=⟨h.os,h.tape,h.output,h.size,h.block⟩
def D7e(y1:World)(g p k:Nat)(w':World):Prop:=(∃x,B0b w' g p k x 0)/\y1.grownBy w' (some g)
def A6c(bs:List UInt8)(p f g k:Nat)(w:World)(e:Ending)(w':World):Prop:=
 e= .returned (.int .i64 (if A5k bs p f=true then 8 else 0))/\B0b w' g p k (A3a bs p f) (A4c bs p f)/\w.grownBy w' (some g)
theorem A3p(bs:List UInt8)(i n:Int):U64 (B0c bs i n).1:=by
 unfold B0c U64;by_cases h1:n<1\/8<n
 ·rw[if_pos h1];exact⟨by decide,by decide⟩
 rw[if_neg h1];by_cases h2:i<0\/(bs.length:Int)<i\/(bs.length:Int) -i<n
 ·rw[if_pos h2];exact⟨by decide,by decide⟩
 rw[if_neg h2];have h3:=C0s ((bs.drop i.toNat).take n.toNat);have h4:256^((bs.drop i.toNat).take n.toNat).length<=256^8:=Nat.pow_le_pow_right (by decide) (by simp;omega);simp only;omega
theorem A3r(bs:List UInt8)(i n:Int)(m:Nat)(hn:n<=m)(hm:m<=8):(B0c bs i n).1<((256^m:Nat):Int):=by
 have hp:0<256^m:=Nat.pow_pos (by decide);unfold B0c;by_cases h1:n<1\/8<n
 ·rw[if_pos h1];exact Int.ofNat_lt.2 hp
 rw[if_neg h1];by_cases h2:i<0\/(bs.length:Int)<i\/(bs.length:Int) -i<n
 ·rw[if_pos h2];exact Int.ofNat_lt.2 hp
 rw[if_neg h2];have h3:=C0s ((bs.drop i.toNat).take n.toNat);have h4:256^((bs.drop i.toNat).take n.toNat).length<=256^m:=Nat.pow_le_pow_right (by decide) (by simp;omega)
 exact Int.ofNat_lt.2 (Nat.lt_of_lt_of_le h3 h4)
theorem D8e(v:Int): -128<=A2q v 1/\A2q v 1<=127:=by rw[show A2q v 1=(v+128)%256-128 from rfl];omega
theorem C8e(v:Int): -32768<=A2q v 2/\A2q v 2<=32767:=by rw[show A2q v 2=(v+32768)%65536-32768 from rfl];omega
theorem E0k(w:World)(a:Option Addr)(n cap:Nat)(bs:List UInt8)(g p k:Nat)(hs:Sl A5f w a n bs)(hn:n<=1048576)(hcap:n<=cap)(hp:p<=1048576)(hb:B0b w g p k 0 0):
  Calls Tryz.prog 100 #[.slice a n cap,.pointer (some ⟨g,0,none⟩),.int .i64 1] w (A6c bs p 1 g k w):=by
 have HS:=hzz hs;have HBK:=hzz hb;have HV:Hid ((B0c bs ((p:Int)+1) 1).1=A3t bs p 1):=hzz rfl;have HU:=hzz (A3p bs ((p:Int)+1) 1)
 have hsm:=A3r bs ((p:Int)+1) 1 1 (by decide) (by decide)
 have HC:=hzz (fun w' (h:Below w.heap.size w w')=>A8e w' a n cap bs ((p:Int)+1) 1 (hs.below h) hn hcap (by unfold A9r;omega) (by unfold A9r;omega));rw[HV.out]at HC HU hsm
 generalize(B0c bs ((p:Int)+1) 1).2=e2 at*;have HRA:Hid (A3a bs p 1=0):=hzz (by unfold A3a;simp);have HRB:Hid (A4c bs p 1=0):=hzz (by unfold A4c;simp)
 obtain⟨x,hx⟩:=exz (A3a bs p 1);obtain⟨y,hy⟩:=exz (A4c bs p 1);have HX:=hzz hx;have HY:=hzz hy;rw[<-hx]at HRA;rw[<-hy]at HRB;clear hs hb hx hy HV;generalize A3t bs p 1=v at*
 rw[show((256^1:Nat):Int)=256 from rfl]at hsm;have hv0:=HU.out.1;go_enter Tryz.func100,Tryz.ntmps100
 go_wp2_with fail
 obtain⟨⟨c0,c1,c2,c3⟩,_,hgl⟩:=HBK.out.box;have d0:=fun w' (h:Below w.heap.size w w')=>A0c h c0
 clear c0 c1 c2 c3
 refine A0h (Below w.heap.size w) (.stir [(0,true),(1,true),(2,true),(3,true),(4,true),(5,true),(6,true),(7,false),(8,true),(9,true),(10,false),(11,true),(12,true),(13,true),(14,true),(15,true)]) (by kernel_rfl) (by kernel_rfl) (fun c a d v w h=>by cases d<;>exact h) ?_
 refine A0m (Below w.heap.size w) (fun _ h=>h) brz.drew ?_
 iterate 7
  refine A0i fun K hK=>tkX ?_
  go_simp
  try go_bits
  refine hK _ ?_;clear hK K
 refine A0i (fun K hK=> ?_);simp only[A2c,List.getElem?_toArray,List.getElem?_cons_succ,List.getElem?_cons_zero];rw[if_pos (by rfl)];apply Exists.intro;refine⟨fun w' hS'=> ?_,?_⟩
 ·go_simp;exact A4j.call (Calls.mono ((A4k w' 1 (by decide))) fun e w'' h=>⟨h.1,(fun hb''=>hb''▸hS') h.2⟩)
 go_simp;refine hK _ ?_;clear hK K;rw[show A0w 1=1 from rfl]
 iterate 2
  refine A0i fun K hK=>tkX ?_
  go_simp
  try go_bits
  refine hK _ ?_;clear hK K
 refine A0i (fun K hK=> ?_);simp only[A2c,List.getElem?_toArray,List.getElem?_cons_succ,List.getElem?_cons_zero];rw[if_pos (by rfl)];apply Exists.intro;refine⟨fun w' hS'=> ?_,?_⟩
 ·go_simp;exact A4j.call (Calls.mono ((HC.out w' hS')) fun e w'' h=>⟨h.1,(fun hb''=>hb''▸hS') h.2⟩)
 go_simp;refine hK _ ?_;clear hK K
 iterate 5
  refine A0i fun K hK=>tkX ?_
  go_simp
  try go_bits
  refine hK _ ?_;clear hK K
 refine A0p (fun y1 hy=> ?_);have HY1:=hzz hy;have HB1:=hzz (HBK.out.below hy);clear d0 hy HC;obtain⟨⟨c0,c1,c2,c3⟩,⟨f2,f3⟩,hg1⟩:=HB1.out.box
 go_wp2_with fail
 go_ret;exact⟨rfl,by rw[<-HX.out,<-HY.out,HRA.out,HRB.out];exact HB1.out,A2j HY1.out⟩
theorem E0x(w:World)(a:Option Addr)(n cap:Nat)(bs:List UInt8)(g p k:Nat)(hs:Sl A5f w a n bs)(hn:n<=1048576)(hcap:n<=cap)(hp:p<=1048576)(hb:B0b w g p k 0 0):
  Calls Tryz.prog 100 #[.slice a n cap,.pointer (some ⟨g,0,none⟩),.int .i64 2] w (A6c bs p 2 g k w):=by
 have HS:=hzz hs;have HBK:=hzz hb;have HV:Hid ((B0c bs ((p:Int)+1) 1).1=A3t bs p 2):=hzz rfl;have HU:=hzz (A3p bs ((p:Int)+1) 1)
 have hsm:=A3r bs ((p:Int)+1) 1 1 (by decide) (by decide)
 have HC:=hzz (fun w' (h:Below w.heap.size w w')=>A8e w' a n cap bs ((p:Int)+1) 1 (hs.below h) hn hcap (by unfold A9r;omega) (by unfold A9r;omega));rw[HV.out]at HC HU hsm
 generalize(B0c bs ((p:Int)+1) 1).2=e2 at*;have HRA:Hid (A3a bs p 2=A3t bs p 2):=hzz (by unfold A3a;simp);have HRB:Hid (A4c bs p 2=0):=hzz (by unfold A4c;simp)
 obtain⟨x,hx⟩:=exz (A3a bs p 2);obtain⟨y,hy⟩:=exz (A4c bs p 2);have HX:=hzz hx;have HY:=hzz hy;rw[<-hx]at HRA;rw[<-hy]at HRB;clear hs hb hx hy HV;generalize A3t bs p 2=v at*
 rw[show((256^1:Nat):Int)=256 from rfl]at hsm;have hv0:=HU.out.1;go_enter Tryz.func100,Tryz.ntmps100
 go_wp2_with fail
 obtain⟨⟨c0,c1,c2,c3⟩,_,hgl⟩:=HBK.out.box;have d0:=fun w' (h:Below w.heap.size w w')=>A0c h c0
 clear c0 c1 c2 c3
 refine A0h (Below w.heap.size w) (.stir [(0,true),(1,true),(2,true),(3,true),(4,true),(5,true),(6,true),(7,false),(8,true),(9,true),(10,false),(11,true),(12,true),(13,true),(14,true),(15,true)]) (by kernel_rfl) (by kernel_rfl) (fun c a d v w h=>by cases d<;>exact h) ?_
 refine A0m (Below w.heap.size w) (fun _ h=>h) brz.drew ?_
 iterate 7
  refine A0i fun K hK=>tkX ?_
  go_simp
  try go_bits
  refine hK _ ?_;clear hK K
 refine A0i (fun K hK=> ?_);simp only[A2c,List.getElem?_toArray,List.getElem?_cons_succ,List.getElem?_cons_zero];rw[if_pos (by rfl)];apply Exists.intro;refine⟨fun w' hS'=> ?_,?_⟩
 ·go_simp;exact A4j.call (Calls.mono ((A4k w' 2 (by decide))) fun e w'' h=>⟨h.1,(fun hb''=>hb''▸hS') h.2⟩)
 go_simp;refine hK _ ?_;clear hK K;rw[show A0w 2=2 from rfl]
 iterate 2
  refine A0i fun K hK=>tkX ?_
  go_simp
  try go_bits
  refine hK _ ?_;clear hK K
 refine A0i (fun K hK=> ?_);simp only[A2c,List.getElem?_toArray,List.getElem?_cons_succ,List.getElem?_cons_zero];rw[if_pos (by rfl)];apply Exists.intro;refine⟨fun w' hS'=> ?_,?_⟩
 ·go_simp;exact A4j.call (Calls.mono ((HC.out w' hS')) fun e w'' h=>⟨h.1,(fun hb''=>hb''▸hS') h.2⟩)
 go_simp;refine hK _ ?_;clear hK K
 iterate 5
  refine A0i fun K hK=>tkX ?_
  go_simp
  try go_bits
  refine hK _ ?_;clear hK K
 refine A0p (fun y1 hy=> ?_);have HY1:=hzz hy;have HB1:=hzz (HBK.out.below hy);clear d0 hy HC;obtain⟨⟨c0,c1,c2,c3⟩,⟨f2,f3⟩,hg1⟩:=HB1.out.box
 go_wp2_with fail
 go_ret;exact⟨rfl,by rw[<-HX.out,<-HY.out,HRA.out,HRB.out];exact HB1.out.set2,A3y (A2j HY1.out)⟩
theorem D8z(w:World)(a:Option Addr)(n cap:Nat)(bs:List UInt8)(g p k:Nat)(hs:Sl A5f w a n bs)(hn:n<=1048576)(hcap:n<=cap)(hp:p<=1048576)(hb:B0b w g p k 0 0):
  Calls Tryz.prog 100 #[.slice a n cap,.pointer (some ⟨g,0,none⟩),.int .i64 3] w (A6c bs p 3 g k w):=by
 have HS:=hzz hs;have HBK:=hzz hb;have HV:Hid ((B0c bs ((p:Int)+1) 1).1=A3t bs p 3):=hzz rfl;have HU:=hzz (A3p bs ((p:Int)+1) 1)
 have hsm:=A3r bs ((p:Int)+1) 1 1 (by decide) (by decide)
 have HC:=hzz (fun w' (h:Below w.heap.size w w')=>A8e w' a n cap bs ((p:Int)+1) 1 (hs.below h) hn hcap (by unfold A9r;omega) (by unfold A9r;omega));rw[HV.out]at HC HU hsm
 generalize(B0c bs ((p:Int)+1) 1).2=e2 at*;have HRA:Hid (A3a bs p 3=A2q (A3t bs p 3) 1):=hzz (by unfold A3a;simp);have HRB:Hid (A4c bs p 3=0):=hzz (by unfold A4c;simp)
 obtain⟨x,hx⟩:=exz (A3a bs p 3);obtain⟨y,hy⟩:=exz (A4c bs p 3);have HX:=hzz hx;have HY:=hzz hy;rw[<-hx]at HRA;rw[<-hy]at HRB;clear hs hb hx hy HV;generalize A3t bs p 3=v at*
 rw[show((256^1:Nat):Int)=256 from rfl]at hsm;have hv0:=HU.out.1;go_enter Tryz.func100,Tryz.ntmps100
 go_wp2_with fail
 obtain⟨⟨c0,c1,c2,c3⟩,_,hgl⟩:=HBK.out.box;have d0:=fun w' (h:Below w.heap.size w w')=>A0c h c0
 clear c0 c1 c2 c3
 refine A0h (Below w.heap.size w) (.stir [(0,true),(1,true),(2,true),(3,true),(4,true),(5,true),(6,true),(7,false),(8,true),(9,true),(10,false),(11,true),(12,true),(13,true),(14,true),(15,true)]) (by kernel_rfl) (by kernel_rfl) (fun c a d v w h=>by cases d<;>exact h) ?_
 refine A0m (Below w.heap.size w) (fun _ h=>h) brz.drew ?_
 iterate 7
  refine A0i fun K hK=>tkX ?_
  go_simp
  try go_bits
  refine hK _ ?_;clear hK K
 refine A0i (fun K hK=> ?_);simp only[A2c,List.getElem?_toArray,List.getElem?_cons_succ,List.getElem?_cons_zero];rw[if_pos (by rfl)];apply Exists.intro;refine⟨fun w' hS'=> ?_,?_⟩
 ·go_simp;exact A4j.call (Calls.mono ((A4k w' 3 (by decide))) fun e w'' h=>⟨h.1,(fun hb''=>hb''▸hS') h.2⟩)
 go_simp;refine hK _ ?_;clear hK K;rw[show A0w 3=2 from rfl]
 iterate 2
  refine A0i fun K hK=>tkX ?_
  go_simp
  try go_bits
  refine hK _ ?_;clear hK K
 refine A0i (fun K hK=> ?_);simp only[A2c,List.getElem?_toArray,List.getElem?_cons_succ,List.getElem?_cons_zero];rw[if_pos (by rfl)];apply Exists.intro;refine⟨fun w' hS'=> ?_,?_⟩
 ·go_simp;exact A4j.call (Calls.mono ((HC.out w' hS')) fun e w'' h=>⟨h.1,(fun hb''=>hb''▸hS') h.2⟩)
 go_simp;refine hK _ ?_;clear hK K
 iterate 5
  refine A0i fun K hK=>tkX ?_
  go_simp
  try go_bits
  refine hK _ ?_;clear hK K
 refine A0p (fun y1 hy=> ?_);have HY1:=hzz hy;have HB1:=hzz (HBK.out.below hy);clear d0 hy HC;obtain⟨⟨c0,c1,c2,c3⟩,⟨f2,f3⟩,hg1⟩:=HB1.out.box
 have HSG:=hzz (B3h y1 v 1 HU.out (by unfold A9r;omega))
 go_wp2_with fail
 refine HSG.out.mono ?_;rintro e w' ⟨rfl,rfl⟩
 go_wp2_with fail
 go_ret;exact⟨rfl,by rw[<-HX.out,<-HY.out,HRA.out,HRB.out];exact HB1.out.set2,A3y (A2j HY1.out)⟩
theorem D8q(w:World)(a:Option Addr)(n cap:Nat)(bs:List UInt8)(g p k:Nat)(hs:Sl A5f w a n bs)(hn:n<=1048576)(hcap:n<=cap)(hp:p<=1048576)(hb:B0b w g p k 0 0):
  Calls Tryz.prog 100 #[.slice a n cap,.pointer (some ⟨g,0,none⟩),.int .i64 4] w (A6c bs p 4 g k w):=by
 have HS:=hzz hs;have HBK:=hzz hb;have HV:Hid ((B0c bs ((p:Int)+1) 2).1=A3t bs p 4):=hzz rfl;have HU:=hzz (A3p bs ((p:Int)+1) 2)
 have hsm:=A3r bs ((p:Int)+1) 2 2 (by decide) (by decide)
 have HC:=hzz (fun w' (h:Below w.heap.size w w')=>A8e w' a n cap bs ((p:Int)+1) 2 (hs.below h) hn hcap (by unfold A9r;omega) (by unfold A9r;omega));rw[HV.out]at HC HU hsm
 generalize(B0c bs ((p:Int)+1) 2).2=e2 at*;have HRA:Hid (A3a bs p 4=A2q (A3t bs p 4) 2):=hzz (by unfold A3a;simp);have HRB:Hid (A4c bs p 4=0):=hzz (by unfold A4c;simp)
 obtain⟨x,hx⟩:=exz (A3a bs p 4);obtain⟨y,hy⟩:=exz (A4c bs p 4);have HX:=hzz hx;have HY:=hzz hy;rw[<-hx]at HRA;rw[<-hy]at HRB;clear hs hb hx hy HV;generalize A3t bs p 4=v at*
 rw[show((256^2:Nat):Int)=65536 from rfl]at hsm;have hv0:=HU.out.1;go_enter Tryz.func100,Tryz.ntmps100
 go_wp2_with fail
 obtain⟨⟨c0,c1,c2,c3⟩,_,hgl⟩:=HBK.out.box;have d0:=fun w' (h:Below w.heap.size w w')=>A0c h c0
 clear c0 c1 c2 c3
 refine A0h (Below w.heap.size w) (.stir [(0,true),(1,true),(2,true),(3,true),(4,true),(5,true),(6,true),(7,false),(8,true),(9,true),(10,false),(11,true),(12,true),(13,true),(14,true),(15,true)]) (by kernel_rfl) (by kernel_rfl) (fun c a d v w h=>by cases d<;>exact h) ?_
 refine A0m (Below w.heap.size w) (fun _ h=>h) brz.drew ?_
 iterate 7
  refine A0i fun K hK=>tkX ?_
  go_simp
  try go_bits
  refine hK _ ?_;clear hK K
 refine A0i (fun K hK=> ?_);simp only[A2c,List.getElem?_toArray,List.getElem?_cons_succ,List.getElem?_cons_zero];rw[if_pos (by rfl)];apply Exists.intro;refine⟨fun w' hS'=> ?_,?_⟩
 ·go_simp;exact A4j.call (Calls.mono ((A4k w' 4 (by decide))) fun e w'' h=>⟨h.1,(fun hb''=>hb''▸hS') h.2⟩)
 go_simp;refine hK _ ?_;clear hK K;rw[show A0w 4=3 from rfl]
 iterate 2
  refine A0i fun K hK=>tkX ?_
  go_simp
  try go_bits
  refine hK _ ?_;clear hK K
 refine A0i (fun K hK=> ?_);simp only[A2c,List.getElem?_toArray,List.getElem?_cons_succ,List.getElem?_cons_zero];rw[if_pos (by rfl)];apply Exists.intro;refine⟨fun w' hS'=> ?_,?_⟩
 ·go_simp;exact A4j.call (Calls.mono ((HC.out w' hS')) fun e w'' h=>⟨h.1,(fun hb''=>hb''▸hS') h.2⟩)
 go_simp;refine hK _ ?_;clear hK K
 iterate 5
  refine A0i fun K hK=>tkX ?_
  go_simp
  try go_bits
  refine hK _ ?_;clear hK K
 refine A0p (fun y1 hy=> ?_);have HY1:=hzz hy;have HB1:=hzz (HBK.out.below hy);clear d0 hy HC;obtain⟨⟨c0,c1,c2,c3⟩,⟨f2,f3⟩,hg1⟩:=HB1.out.box
 have HSG:=hzz (B3h y1 v 2 HU.out (by unfold A9r;omega))
 go_wp2_with fail
 refine HSG.out.mono ?_;rintro e w' ⟨rfl,rfl⟩
 go_wp2_with fail
 go_ret;exact⟨rfl,by rw[<-HX.out,<-HY.out,HRA.out,HRB.out];exact HB1.out.set2,A3y (A2j HY1.out)⟩
theorem D9s(w:World)(a:Option Addr)(n cap:Nat)(bs:List UInt8)(g p k:Nat)(hs:Sl A5f w a n bs)(hn:n<=1048576)(hcap:n<=cap)(hp:p<=1048576)(hb:B0b w g p k 0 0):
  Calls Tryz.prog 100 #[.slice a n cap,.pointer (some ⟨g,0,none⟩),.int .i64 5] w (A6c bs p 5 g k w):=by
 have HS:=hzz hs;have HBK:=hzz hb;have HV:Hid ((B0c bs ((p:Int)+1) 1).1=A3t bs p 5):=hzz rfl;have HU:=hzz (A3p bs ((p:Int)+1) 1)
 have hsm:=A3r bs ((p:Int)+1) 1 1 (by decide) (by decide)
 have HC:=hzz (fun w' (h:Below w.heap.size w w')=>A8e w' a n cap bs ((p:Int)+1) 1 (hs.below h) hn hcap (by unfold A9r;omega) (by unfold A9r;omega));rw[HV.out]at HC HU hsm
 generalize(B0c bs ((p:Int)+1) 1).2=e2 at*;have HRA:Hid (A3a bs p 5=A3t bs p 5):=hzz (by unfold A3a;simp);have HRB:Hid (A4c bs p 5=0):=hzz (by unfold A4c;simp)
 obtain⟨x,hx⟩:=exz (A3a bs p 5);obtain⟨y,hy⟩:=exz (A4c bs p 5);have HX:=hzz hx;have HY:=hzz hy;rw[<-hx]at HRA;rw[<-hy]at HRB;clear hs hb hx hy HV;generalize A3t bs p 5=v at*
 rw[show((256^1:Nat):Int)=256 from rfl]at hsm;have hv0:=HU.out.1;go_enter Tryz.func100,Tryz.ntmps100
 go_wp2_with fail
 obtain⟨⟨c0,c1,c2,c3⟩,_,hgl⟩:=HBK.out.box;have d0:=fun w' (h:Below w.heap.size w w')=>A0c h c0
 clear c0 c1 c2 c3
 refine A0h (Below w.heap.size w) (.stir [(0,true),(1,true),(2,true),(3,true),(4,true),(5,true),(6,true),(7,false),(8,true),(9,true),(10,false),(11,true),(12,true),(13,true),(14,true),(15,true)]) (by kernel_rfl) (by kernel_rfl) (fun c a d v w h=>by cases d<;>exact h) ?_
 refine A0m (Below w.heap.size w) (fun _ h=>h) brz.drew ?_
 iterate 7
  refine A0i fun K hK=>tkX ?_
  go_simp
  try go_bits
  refine hK _ ?_;clear hK K
 refine A0i (fun K hK=> ?_);simp only[A2c,List.getElem?_toArray,List.getElem?_cons_succ,List.getElem?_cons_zero];rw[if_pos (by rfl)];apply Exists.intro;refine⟨fun w' hS'=> ?_,?_⟩
 ·go_simp;exact A4j.call (Calls.mono ((A4k w' 5 (by decide))) fun e w'' h=>⟨h.1,(fun hb''=>hb''▸hS') h.2⟩)
 go_simp;refine hK _ ?_;clear hK K;rw[show A0w 5=2 from rfl]
 iterate 2
  refine A0i fun K hK=>tkX ?_
  go_simp
  try go_bits
  refine hK _ ?_;clear hK K
 refine A0i (fun K hK=> ?_);simp only[A2c,List.getElem?_toArray,List.getElem?_cons_succ,List.getElem?_cons_zero];rw[if_pos (by rfl)];apply Exists.intro;refine⟨fun w' hS'=> ?_,?_⟩
 ·go_simp;exact A4j.call (Calls.mono ((HC.out w' hS')) fun e w'' h=>⟨h.1,(fun hb''=>hb''▸hS') h.2⟩)
 go_simp;refine hK _ ?_;clear hK K
 iterate 5
  refine A0i fun K hK=>tkX ?_
  go_simp
  try go_bits
  refine hK _ ?_;clear hK K
 refine A0p (fun y1 hy=> ?_);have HY1:=hzz hy;have HB1:=hzz (HBK.out.below hy);clear d0 hy HC;obtain⟨⟨c0,c1,c2,c3⟩,⟨f2,f3⟩,hg1⟩:=HB1.out.box
 go_wp2_with fail
 go_ret;exact⟨rfl,by rw[<-HX.out,<-HY.out,HRA.out,HRB.out];exact HB1.out.set2,A3y (A2j HY1.out)⟩
theorem E0y(w:World)(a:Option Addr)(n cap:Nat)(bs:List UInt8)(g p k:Nat)(hs:Sl A5f w a n bs)(hn:n<=1048576)(hcap:n<=cap)(hp:p<=1048576)(hb:B0b w g p k 0 0):
  Calls Tryz.prog 100 #[.slice a n cap,.pointer (some ⟨g,0,none⟩),.int .i64 6] w (A6c bs p 6 g k w):=by
 have HS:=hzz hs;have HBK:=hzz hb;have HV:Hid ((B0c bs ((p:Int)+1) 2).1=A3t bs p 6):=hzz rfl;have HU:=hzz (A3p bs ((p:Int)+1) 2)
 have hsm:=A3r bs ((p:Int)+1) 2 2 (by decide) (by decide)
 have HC:=hzz (fun w' (h:Below w.heap.size w w')=>A8e w' a n cap bs ((p:Int)+1) 2 (hs.below h) hn hcap (by unfold A9r;omega) (by unfold A9r;omega));rw[HV.out]at HC HU hsm
 generalize(B0c bs ((p:Int)+1) 2).2=e2 at*;have HRA:Hid (A3a bs p 6=A3t bs p 6):=hzz (by unfold A3a;simp);have HRB:Hid (A4c bs p 6=0):=hzz (by unfold A4c;simp)
 obtain⟨x,hx⟩:=exz (A3a bs p 6);obtain⟨y,hy⟩:=exz (A4c bs p 6);have HX:=hzz hx;have HY:=hzz hy;rw[<-hx]at HRA;rw[<-hy]at HRB;clear hs hb hx hy HV;generalize A3t bs p 6=v at*
 rw[show((256^2:Nat):Int)=65536 from rfl]at hsm;have hv0:=HU.out.1;go_enter Tryz.func100,Tryz.ntmps100
 go_wp2_with fail
 obtain⟨⟨c0,c1,c2,c3⟩,_,hgl⟩:=HBK.out.box;have d0:=fun w' (h:Below w.heap.size w w')=>A0c h c0
 clear c0 c1 c2 c3
 refine A0h (Below w.heap.size w) (.stir [(0,true),(1,true),(2,true),(3,true),(4,true),(5,true),(6,true),(7,false),(8,true),(9,true),(10,false),(11,true),(12,true),(13,true),(14,true),(15,true)]) (by kernel_rfl) (by kernel_rfl) (fun c a d v w h=>by cases d<;>exact h) ?_
 refine A0m (Below w.heap.size w) (fun _ h=>h) brz.drew ?_
 iterate 7
  refine A0i fun K hK=>tkX ?_
  go_simp
  try go_bits
  refine hK _ ?_;clear hK K
 refine A0i (fun K hK=> ?_);simp only[A2c,List.getElem?_toArray,List.getElem?_cons_succ,List.getElem?_cons_zero];rw[if_pos (by rfl)];apply Exists.intro;refine⟨fun w' hS'=> ?_,?_⟩
 ·go_simp;exact A4j.call (Calls.mono ((A4k w' 6 (by decide))) fun e w'' h=>⟨h.1,(fun hb''=>hb''▸hS') h.2⟩)
 go_simp;refine hK _ ?_;clear hK K;rw[show A0w 6=3 from rfl]
 iterate 2
  refine A0i fun K hK=>tkX ?_
  go_simp
  try go_bits
  refine hK _ ?_;clear hK K
 refine A0i (fun K hK=> ?_);simp only[A2c,List.getElem?_toArray,List.getElem?_cons_succ,List.getElem?_cons_zero];rw[if_pos (by rfl)];apply Exists.intro;refine⟨fun w' hS'=> ?_,?_⟩
 ·go_simp;exact A4j.call (Calls.mono ((HC.out w' hS')) fun e w'' h=>⟨h.1,(fun hb''=>hb''▸hS') h.2⟩)
 go_simp;refine hK _ ?_;clear hK K
 iterate 5
  refine A0i fun K hK=>tkX ?_
  go_simp
  try go_bits
  refine hK _ ?_;clear hK K
 refine A0p (fun y1 hy=> ?_);have HY1:=hzz hy;have HB1:=hzz (HBK.out.below hy);clear d0 hy HC;obtain⟨⟨c0,c1,c2,c3⟩,⟨f2,f3⟩,hg1⟩:=HB1.out.box
 go_wp2_with fail
 go_ret;exact⟨rfl,by rw[<-HX.out,<-HY.out,HRA.out,HRB.out];exact HB1.out.set2,A3y (A2j HY1.out)⟩
theorem D9y(w:World)(a:Option Addr)(n cap:Nat)(bs:List UInt8)(g p k:Nat)(hs:Sl A5f w a n bs)(hn:n<=1048576)(hcap:n<=cap)(hp:p<=1048576)(hb:B0b w g p k 0 0):
  Calls Tryz.prog 100 #[.slice a n cap,.pointer (some ⟨g,0,none⟩),.int .i64 7] w (A6c bs p 7 g k w):=by
 have HS:=hzz hs;have HBK:=hzz hb;have HV:Hid ((B0c bs ((p:Int)+1) 2).1=A3t bs p 7):=hzz rfl;have HU:=hzz (A3p bs ((p:Int)+1) 2)
 have hsm:=A3r bs ((p:Int)+1) 2 2 (by decide) (by decide)
 have HC:=hzz (fun w' (h:Below w.heap.size w w')=>A8e w' a n cap bs ((p:Int)+1) 2 (hs.below h) hn hcap (by unfold A9r;omega) (by unfold A9r;omega));rw[HV.out]at HC HU hsm
 generalize(B0c bs ((p:Int)+1) 2).2=e2 at*;have HRA:Hid (A3a bs p 7=(p:Int)+A2q (A3t bs p 7) 2):=hzz (by unfold A3a;simp);have HRB:Hid (A4c bs p 7=0):=hzz (by unfold A4c;simp)
 obtain⟨x,hx⟩:=exz (A3a bs p 7);obtain⟨y,hy⟩:=exz (A4c bs p 7);have HX:=hzz hx;have HY:=hzz hy;rw[<-hx]at HRA;rw[<-hy]at HRB;clear hs hb hx hy HV;generalize A3t bs p 7=v at*
 rw[show((256^2:Nat):Int)=65536 from rfl]at hsm;have hv0:=HU.out.1;go_enter Tryz.func100,Tryz.ntmps100
 go_wp2_with fail
 obtain⟨⟨c0,c1,c2,c3⟩,_,hgl⟩:=HBK.out.box;have d0:=fun w' (h:Below w.heap.size w w')=>A0c h c0
 clear c0 c1 c2 c3
 refine A0h (Below w.heap.size w) (.stir [(0,true),(1,true),(2,true),(3,true),(4,true),(5,true),(6,true),(7,false),(8,true),(9,true),(10,false),(11,true),(12,true),(13,true),(14,true),(15,true)]) (by kernel_rfl) (by kernel_rfl) (fun c a d v w h=>by cases d<;>exact h) ?_
 refine A0m (Below w.heap.size w) (fun _ h=>h) brz.drew ?_
 iterate 7
  refine A0i fun K hK=>tkX ?_
  go_simp
  try go_bits
  refine hK _ ?_;clear hK K
 refine A0i (fun K hK=> ?_);simp only[A2c,List.getElem?_toArray,List.getElem?_cons_succ,List.getElem?_cons_zero];rw[if_pos (by rfl)];apply Exists.intro;refine⟨fun w' hS'=> ?_,?_⟩
 ·go_simp;exact A4j.call (Calls.mono ((A4k w' 7 (by decide))) fun e w'' h=>⟨h.1,(fun hb''=>hb''▸hS') h.2⟩)
 go_simp;refine hK _ ?_;clear hK K;rw[show A0w 7=3 from rfl]
 iterate 2
  refine A0i fun K hK=>tkX ?_
  go_simp
  try go_bits
  refine hK _ ?_;clear hK K
 refine A0i (fun K hK=> ?_);simp only[A2c,List.getElem?_toArray,List.getElem?_cons_succ,List.getElem?_cons_zero];rw[if_pos (by rfl)];apply Exists.intro;refine⟨fun w' hS'=> ?_,?_⟩
 ·go_simp;exact A4j.call (Calls.mono ((HC.out w' hS')) fun e w'' h=>⟨h.1,(fun hb''=>hb''▸hS') h.2⟩)
 go_simp;refine hK _ ?_;clear hK K
 iterate 5
  refine A0i fun K hK=>tkX ?_
  go_simp
  try go_bits
  refine hK _ ?_;clear hK K
 refine A0p (fun y1 hy=> ?_);have HY1:=hzz hy;have HB1:=hzz (HBK.out.below hy);clear d0 hy HC;obtain⟨⟨c0,c1,c2,c3⟩,⟨f2,f3⟩,hg1⟩:=HB1.out.box
 have HSG:=hzz (fun w'=>B3h w' v 2 HU.out (by unfold A9r;omega));have hs2:=C8e v
 go_wp2_with fail
 have d0:=fun w' (h:D7e y1 g p k w')=>h.1.choose_spec.box.1.1
 have HBd:=HB1.out.below (Below.refl y1.heap.size y1).drew;have hSw:D7e y1 g p k y1.drew:=⟨⟨0,HBd⟩,A2j brz.drew⟩;clear c0 c1 c2 c3 f2 f3;have HBD:=hzz HBd;clear HBd
 refine A0h (D7e y1 g p k) (.of [(0,true),(1,true),(2,true),(3,true),(4,true),(5,true),(6,false),(7,true),(8,true),(9,true),(10,false)] (.stir [])) (by kernel_rfl) (by kernel_rfl) (fun c a d v w h=>by cases d<;>exact h) ?_
 iterate 6
  refine A0b fun K hK=>tkF ?_
  go_simp
  try go_bits
  refine hK _ _ ?_;clear hK K
 refine A0b fun K hK=>alF ?_
 go_step;refine(HSG.out _).mono ?_;rintro e w' ⟨rfl,rfl⟩;go_simp;refine hK _ _ ?_;clear hK K
 iterate 3
  refine A0b fun K hK=>tkF ?_
  go_simp
  try go_bits
  refine hK _ _ ?_;clear hK K
 obtain⟨⟨c0,c1,c2,c3⟩,⟨f2,f3⟩,hg1⟩:=HBD.out.box;refine A0b fun K hK=>alF ?_
 go_step;have HX2:B0b (y1.setCell ⟨g,2,none⟩ (.int .i64 ((p:Int)+A2q v 2))).drew g p k ((p:Int)+A2q v 2) 0:=HB1.out.set2
 have HG2:w.grownBy (y1.setCell ⟨g,2,none⟩ (.int .i64 ((p:Int)+A2q v 2))).drew (some g):=B1w (A3y (A2j HY1.out))
 refine⟨⟨⟨_,HX2⟩,B1w (A3y (A2j brz))⟩,hK _ _ ?_⟩;clear hK K;have HXX:=hzz HX2;have HGG:=hzz HG2;clear HX2 HG2 c0 c1 c2 c3 f2 f3 d0 hSw
 refine A0m (fun z=>z=(y1.setCell ⟨g,2,none⟩ (.int .i64 ((p:Int)+A2q v 2))).drew) (fun z hz=>by subst hz;exact⟨⟨_,HXX.out⟩,B1w (A3y (A2j brz))⟩) rfl ?_
 refine A0p (fun y2 hy=> ?_);subst hy
 go_wp2_with fail
 go_ret;exact⟨rfl,by rw[<-HX.out,<-HY.out,HRA.out,HRB.out];exact HXX.out,HGG.out⟩
theorem D8t(w:World)(a:Option Addr)(n cap:Nat)(bs:List UInt8)(g p k:Nat)(hs:Sl A5f w a n bs)(hn:n<=1048576)(hcap:n<=cap)(hp:p<=1048576)(hb:B0b w g p k 0 0):
  Calls Tryz.prog 100 #[.slice a n cap,.pointer (some ⟨g,0,none⟩),.int .i64 8] w (A6c bs p 8 g k w):=by
 have HS:=hzz hs;have HBK:=hzz hb;have HV:Hid ((B0c bs ((p:Int)+1) 2).1=A3t bs p 8):=hzz rfl;have HU:=hzz (A3p bs ((p:Int)+1) 2)
 have hsm:=A3r bs ((p:Int)+1) 2 2 (by decide) (by decide)
 have HC:=hzz (fun w' (h:Below w.heap.size w w')=>A8e w' a n cap bs ((p:Int)+1) 2 (hs.below h) hn hcap (by unfold A9r;omega) (by unfold A9r;omega));rw[HV.out]at HC HU hsm
 generalize(B0c bs ((p:Int)+1) 2).2=e2 at*;have HRA:Hid (A3a bs p 8=A3t bs p 8/256):=hzz (by unfold A3a;simp)
 have HRB:Hid (A4c bs p 8=A2q (A3t bs p 8) 1):=hzz (by unfold A4c;simp);obtain⟨x,hx⟩:=exz (A3a bs p 8);obtain⟨y,hy⟩:=exz (A4c bs p 8);have HX:=hzz hx;have HY:=hzz hy;rw[<-hx]at HRA
 rw[<-hy]at HRB;clear hs hb hx hy HV;generalize A3t bs p 8=v at*;rw[show((256^2:Nat):Int)=65536 from rfl]at hsm;have hv0:=HU.out.1;go_enter Tryz.func100,Tryz.ntmps100
 go_wp2_with fail
 obtain⟨⟨c0,c1,c2,c3⟩,_,hgl⟩:=HBK.out.box;have d0:=fun w' (h:Below w.heap.size w w')=>A0c h c0
 clear c0 c1 c2 c3
 refine A0h (Below w.heap.size w) (.stir [(0,true),(1,true),(2,true),(3,true),(4,true),(5,true),(6,true),(7,false),(8,true),(9,true),(10,false),(11,true),(12,true),(13,true),(14,true),(15,true)]) (by kernel_rfl) (by kernel_rfl) (fun c a d v w h=>by cases d<;>exact h) ?_
 refine A0m (Below w.heap.size w) (fun _ h=>h) brz.drew ?_
 iterate 7
  refine A0i fun K hK=>tkX ?_
  go_simp
  try go_bits
  refine hK _ ?_;clear hK K
 refine A0i (fun K hK=> ?_);simp only[A2c,List.getElem?_toArray,List.getElem?_cons_succ,List.getElem?_cons_zero];rw[if_pos (by rfl)];apply Exists.intro;refine⟨fun w' hS'=> ?_,?_⟩
 ·go_simp;exact A4j.call (Calls.mono ((A4k w' 8 (by decide))) fun e w'' h=>⟨h.1,(fun hb''=>hb''▸hS') h.2⟩)
 go_simp;refine hK _ ?_;clear hK K;rw[show A0w 8=3 from rfl]
 iterate 2
  refine A0i fun K hK=>tkX ?_
  go_simp
  try go_bits
  refine hK _ ?_;clear hK K
 refine A0i (fun K hK=> ?_);simp only[A2c,List.getElem?_toArray,List.getElem?_cons_succ,List.getElem?_cons_zero];rw[if_pos (by rfl)];apply Exists.intro;refine⟨fun w' hS'=> ?_,?_⟩
 ·go_simp;exact A4j.call (Calls.mono ((HC.out w' hS')) fun e w'' h=>⟨h.1,(fun hb''=>hb''▸hS') h.2⟩)
 go_simp;refine hK _ ?_;clear hK K
 iterate 5
  refine A0i fun K hK=>tkX ?_
  go_simp
  try go_bits
  refine hK _ ?_;clear hK K
 refine A0p (fun y1 hy=> ?_);have HY1:=hzz hy;have HB1:=hzz (HBK.out.below hy);clear d0 hy HC;obtain⟨⟨c0,c1,c2,c3⟩,⟨f2,f3⟩,hg1⟩:=HB1.out.box
 have HSG:=hzz (B3h y1 v 1 HU.out (by unfold A9r;omega))
 go_wp2_with fail
 refine HSG.out.mono ?_;rintro e w' ⟨rfl,rfl⟩
 go_wp2_with fail
 go_ret;exact⟨rfl,by rw[<-HX.out,<-HY.out,HRA.out,HRB.out];exact HB1.out.set2.set3,A3y (A3y (A2j HY1.out))⟩
theorem D9d(w:World)(a:Option Addr)(n cap:Nat)(bs:List UInt8)(g p k:Nat)(hs:Sl A5f w a n bs)(hn:n<=1048576)(hcap:n<=cap)(hp:p<=1048576)(hb:B0b w g p k 0 0):
  Calls Tryz.prog 100 #[.slice a n cap,.pointer (some ⟨g,0,none⟩),.int .i64 9] w (A6c bs p 9 g k w):=by
 have HS:=hzz hs;have HBK:=hzz hb;have HV:Hid ((B0c bs ((p:Int)+1) 1).1=A3t bs p 9):=hzz rfl;have HU:=hzz (A3p bs ((p:Int)+1) 1)
 have hsm:=A3r bs ((p:Int)+1) 1 1 (by decide) (by decide)
 have HC:=hzz (fun w' (h:Below w.heap.size w w')=>A8e w' a n cap bs ((p:Int)+1) 1 (hs.below h) hn hcap (by unfold A9r;omega) (by unfold A9r;omega));rw[HV.out]at HC HU hsm
 generalize(B0c bs ((p:Int)+1) 1).2=e2 at*;have HRA:Hid (A3a bs p 9=A3t bs p 9):=hzz (by unfold A3a;simp);have HRB:Hid (A4c bs p 9=0):=hzz (by unfold A4c;simp)
 obtain⟨x,hx⟩:=exz (A3a bs p 9);obtain⟨y,hy⟩:=exz (A4c bs p 9);have HX:=hzz hx;have HY:=hzz hy;rw[<-hx]at HRA;rw[<-hy]at HRB;clear hs hb hx hy HV;generalize A3t bs p 9=v at*
 rw[show((256^1:Nat):Int)=256 from rfl]at hsm;have hv0:=HU.out.1;go_enter Tryz.func100,Tryz.ntmps100
 go_wp2_with fail
 obtain⟨⟨c0,c1,c2,c3⟩,_,hgl⟩:=HBK.out.box;have d0:=fun w' (h:Below w.heap.size w w')=>A0c h c0
 clear c0 c1 c2 c3
 refine A0h (Below w.heap.size w) (.stir [(0,true),(1,true),(2,true),(3,true),(4,true),(5,true),(6,true),(7,false),(8,true),(9,true),(10,false),(11,true),(12,true),(13,true),(14,true),(15,true)]) (by kernel_rfl) (by kernel_rfl) (fun c a d v w h=>by cases d<;>exact h) ?_
 refine A0m (Below w.heap.size w) (fun _ h=>h) brz.drew ?_
 iterate 7
  refine A0i fun K hK=>tkX ?_
  go_simp
  try go_bits
  refine hK _ ?_;clear hK K
 refine A0i (fun K hK=> ?_);simp only[A2c,List.getElem?_toArray,List.getElem?_cons_succ,List.getElem?_cons_zero];rw[if_pos (by rfl)];apply Exists.intro;refine⟨fun w' hS'=> ?_,?_⟩
 ·go_simp;exact A4j.call (Calls.mono ((A4k w' 9 (by decide))) fun e w'' h=>⟨h.1,(fun hb''=>hb''▸hS') h.2⟩)
 go_simp;refine hK _ ?_;clear hK K;rw[show A0w 9=2 from rfl]
 iterate 2
  refine A0i fun K hK=>tkX ?_
  go_simp
  try go_bits
  refine hK _ ?_;clear hK K
 refine A0i (fun K hK=> ?_);simp only[A2c,List.getElem?_toArray,List.getElem?_cons_succ,List.getElem?_cons_zero];rw[if_pos (by rfl)];apply Exists.intro;refine⟨fun w' hS'=> ?_,?_⟩
 ·go_simp;exact A4j.call (Calls.mono ((HC.out w' hS')) fun e w'' h=>⟨h.1,(fun hb''=>hb''▸hS') h.2⟩)
 go_simp;refine hK _ ?_;clear hK K
 iterate 5
  refine A0i fun K hK=>tkX ?_
  go_simp
  try go_bits
  refine hK _ ?_;clear hK K
 refine A0p (fun y1 hy=> ?_);have HY1:=hzz hy;have HB1:=hzz (HBK.out.below hy);clear d0 hy HC;obtain⟨⟨c0,c1,c2,c3⟩,⟨f2,f3⟩,hg1⟩:=HB1.out.box
 have HBD:Hid (A5k bs p 9=(!(A3a bs p 9==8)&& !(A3a bs p 9==10))):=hzz rfl;rw[<-HX.out,HRA.out]at HBD
 have HFIN:=hzz (show ∀r:Int,r=(if A5k bs p 9=true then 8 else 0)->A6c bs p 9 g k w (.returned (.int .i64 r)) (y1.setCell ⟨g,2,none⟩ (.int .i64 v))from fun r hr=>
  ⟨by rw[hr],by rw[<-HX.out,<-HY.out,HRA.out,HRB.out];exact HB1.out.set2,A3y (A2j HY1.out)⟩)
 by_cases h8:v=8
 ·have e8:(v !=8)=false:=by simp[h8]
  have HR:=hzz (show A5k bs p 9=false by rw[HBD.out];simp[h8]);rw[HR.out]at HFIN;clear h8 HBD
  go_wp2_with fail
  go_ret;exact HFIN.out 0 rfl
 have e8:(v !=8)=true:=by simp[h8]
 by_cases h10:v=10
 ·have e10:(v !=10)=false:=by simp[h10]
  have HR:=hzz (show A5k bs p 9=false by rw[HBD.out];simp[h10]);rw[HR.out]at HFIN;clear h8 h10 HBD
  go_wp2_with fail
  go_ret;exact HFIN.out 0 rfl
 have e10:(v !=10)=true:=by simp[h10]
 have HR:=hzz (show A5k bs p 9=true by rw[HBD.out];simp[h8,h10]);rw[HR.out]at HFIN;clear h8 h10 HBD
 go_wp2_with fail
 go_ret;exact HFIN.out 8 rfl
theorem D2p(w:World)(a:Option Addr)(n cap:Nat)(bs:List UInt8)(g p k f:Nat)(hs:Sl A5f w a n bs)(hn:n<=1048576)(hcap:n<=cap)(hp:p<=1048576)(hb:B0b w g p k 0 0)(h1:f≠0)(h9:f<=9):
  Calls Tryz.prog 100 #[.slice a n cap,.pointer (some ⟨g,0,none⟩),.int .i64 (f:Nat)] w (A6c bs p f g k w):=by
 have h:f=1\/f=2\/f=3\/f=4\/f=5\/f=6\/f=7\/f=8\/f=9:=by omega
 rcases h with rfl|rfl|rfl|rfl|rfl|rfl|rfl|rfl|rfl
 ·exact E0k w a n cap bs g p k hs hn hcap hp hb
 ·exact E0x w a n cap bs g p k hs hn hcap hp hb
 ·exact D8z w a n cap bs g p k hs hn hcap hp hb
 ·exact D8q w a n cap bs g p k hs hn hcap hp hb
 ·exact D9s w a n cap bs g p k hs hn hcap hp hb
 ·exact E0y w a n cap bs g p k hs hn hcap hp hb
 ·exact D9y w a n cap bs g p k hs hn hcap hp hb
 ·exact D8t w a n cap bs g p k hs hn hcap hp hb
 exact D9d w a n cap bs g p k hs hn hcap hp hb
theorem C9k(bs:List UInt8)(p:Nat):A6n bs p<256:=(bs.getD p 0).toNat_lt
theorem B1j{f:Nat}(h0:f≠0)(h9:f<=9):1<=A0w f:=by
 match f,h0,h9 with
 |1,_,_|2,_,_|3,_,_|4,_,_|5,_,_|6,_,_|7,_,_|8,_,_|9,_,_=>decide
 |n+10,_,h=>omega
theorem B4c(bs:List UInt8)(p f:Nat):0<=A3t bs p f/\A3t bs p f<65536:=by
 have h1:=A3p bs ((p:Int)+1) ((max (A0w f-1) 1:Nat):Int);have h2:=A3r bs ((p:Int)+1) ((max (A0w f-1) 1:Nat):Int) 2 (by have:=B3d f;omega) (by decide);unfold A3t
 refine⟨h1.1,?_⟩;rw[show((256^2:Nat):Int)=65536 from rfl]at h2;exact h2
theorem C0x(bs:List UInt8)(p f:Nat): -32768<=A3a bs p f/\A3a bs p f<=(p:Int)+65536:=by
 have h:=B4c bs p f;unfold A3a;generalize A3t bs p f=v at*;have h1:=D8e v;have h2:=C8e v;simp only;split
 ·omega
 split
 ·omega
 split
 ·omega
 split
 ·omega
 split
 ·omega
 omega
theorem A1j{n:Int}(h: -9223372036854775808<=n/\n<=9223372036854775807):A4b n:=by
 unfold A4b Lit.wf;simp only[Bool.and_eq_true,decide_eq_true_eq];exact h
theorem D4a(bs:List UInt8)(p:Nat)(hp:p<=1048576):A4b (B2j bs p).pos/\A4b (B2j bs p).a/\(B2j bs p).op<256:=by
 have h:=C0x bs p (A0g (A6n bs p));exact⟨A1j (by unfold B2j;simp only;omega),A1j (by unfold B2j;simp only;omega),C9k bs p⟩
theorem C3v(bs:List UInt8)(fuel p:Nat)(acc:List RW)(h:bs.length<=p):B1v bs fuel p acc=(0,acc):=by
 cases fuel
 ·rfl
 unfold B1v;rw[if_pos h]
theorem C9f(bs:List UInt8)(fuel p:Nat)(acc:List RW)(h:p<bs.length)(h0:A0g (A6n bs p)=0):B1v bs (fuel+1) p acc=(8,[]):=by
 rw[B1v,if_neg (by omega),if_pos h0]
theorem C6n(bs:List UInt8)(fuel p:Nat)(acc:List RW)(h:p<bs.length)(h0:A0g (A6n bs p)≠0)(h1:bs.length-p<A0w (A0g (A6n bs p))):B1v bs (fuel+1) p acc=(6,[]):=by
 rw[B1v,if_neg (by omega),if_neg h0,if_pos h1]
theorem D2r(bs:List UInt8)(fuel p:Nat)(acc:List RW)(h:p<bs.length)(h0:A0g (A6n bs p)≠0)(h1:¬bs.length-p<A0w (A0g (A6n bs p)))(h2:A5k bs p (A0g (A6n bs p))=true):B1v bs (fuel+1) p acc=(8,[]):=by
 rw[B1v,if_neg (by omega),if_neg h0,if_neg h1,if_pos h2]
theorem B7x(bs:List UInt8)(fuel p:Nat)(acc:List RW)(h:p<bs.length)(h0:A0g (A6n bs p)≠0)(h1:¬bs.length-p<A0w (A0g (A6n bs p)))(h2:A5k bs p (A0g (A6n bs p))=false):
  B1v bs (fuel+1) p acc=B1v bs fuel (p+A0w (A0g (A6n bs p))) (acc++[B2j bs p]):=by
 rw[B1v,if_neg (by omega),if_neg h0,if_neg h1,if_neg (by rw[h2];decide)]
theorem C0u{bs:List UInt8}(h:4096<bs.length):A2h bs=(9,[]):=by unfold A2h;rw[if_pos h]
theorem B2f{bs:List UInt8}{e:Int}(h:¬4096<bs.length)(hd:B1v bs (bs.length+1) 0 []=(e,[]))(he:e≠0):A2h bs=(e,[]):=by
 unfold A2h;rw[if_neg h,hd,if_pos he]
theorem B7y{bs:List UInt8}{l:List RW}(h:¬4096<bs.length)(hd:B1v bs (bs.length+1) 0 []=(0,l))(hg:A7e l=false):A2h bs=(2,[]):=by
 unfold A2h;rw[if_neg h,hd,if_neg (by simp),if_neg (by simp[hg])]
theorem B8t{bs:List UInt8}{l:List RW}(h:¬4096<bs.length)(hd:B1v bs (bs.length+1) 0 []=(0,l))(hg:A7e l=true):A2h bs=(0,l):=by
 unfold A2h;rw[if_neg h,hd,if_neg (by simp),if_pos hg]
theorem stR:StE 112 118 (.agg #[.int .i64 0,.int .u8 0,.int .i64 0,.int .i64 0]) 4 32:=⟨Tryz.underlying112,by kernel_rfl,rfl⟩
theorem B8i{w w':World}{B:Nat}{e t:TypeId}{size:Nat}{v:Value}{n g:Nat}{xs:List Value}{o:Obj}{cs:Array Value}{fr:Nat×Nat}(ho:w.ownsRow B e size v n xs)(hg:(w.alloc o).grownBy w' v.ownBlock)(hx:w.heap[g]? =some (.cells cs t fr))(hne:e≠t):w'.heap[g]? =some (.cells cs t fr):=by
 have hlt:=(Array.getElem?_eq_some_iff.1 hx).1;rw[hg.block g (by simp;omega) ?_,Below.heap_alloc _ _ _ hlt]
 ·exact hx
 intro he
 rcases ho.2 with⟨rfl,_⟩|⟨g2,cap,cur,rfl,_,hg2,_⟩
 ·simp[Value.ownBlock]at he
 simp[Value.ownBlock]at he;subst he;rw[hg2]at hx;simp at hx;exact hne hx.2.1
theorem D0c{w w':World}{o:Obj}{row:Option Nat}{g:Nat}(hg:(w.alloc o).grownBy w' row)(h:g<w.heap.size):g<w'.heap.size:=by
 have h1:=hg.size;simp at h1;omega
def A6a(R:Int×List RW)(w:World)(e:Ending)(w':World):Prop:=
 ∃v m,e= .returned (.tuple #[v,.int .i64 R.1])/\w'.ownsRow w.heap.size 118 4 v m (R.2.flatMap RW.cells)/\(∀r∈R.2,A4b r.pos/\A4b r.a/\r.op<256)/\Below w.heap.size w w'
theorem A6a.err{R:Int×List RW}{w w':World}{e:Int}(h:R=(e,[]))(hb:Below w.heap.size w w'):A6a R w (.returned (.tuple #[.slice none 0 0,.int .i64 e])) w':=by
 subst h
 exact⟨_,0,rfl,World.ownsRow_nil _ _ _ _,(fun r hr=>by cases hr),hb⟩
theorem C0r(w:World)(a:Option Addr)(n cap:Nat)(bs:List UInt8)(hs:Sl A5f w a n bs)(hn:n<=65536)(hcap:n<=cap):Calls Tryz.prog 53 #[.slice a n cap] w (A6a (A2h bs) w):=by
 have HS:=hzz hs;have HLn:=hzz hs.1;obtain⟨R,hR⟩:=exz (A2h bs);rw[<-hR];have HR:=hzz hR;clear hs hR;by_cases h4:4096<n
 ·have HQ:=hzz (show R=(9,[]) by rw[HR.out];exact C0u (by rw[HLn.out];exact h4));have e1:decide ((4096:Int)<n)=true:=by simp;omega
  go_enter Tryz.func53,Tryz.ntmps53
  go_wp2_with fail
  go_ret2;exact A6a.err HQ.out brz
 have e1:decide ((4096:Int)<n)=false:=by simp;omega
 have H4:=hzz (show ¬4096<bs.length by rw[HLn.out];exact h4);have hz:=D6p;go_enter Tryz.func53,Tryz.ntmps53
 go_wp2_with fail
 refine(B3q _).mono ?_;rintro e w1 ⟨rfl,hb1⟩;have HB1:=hzz hb1;clear hb1
 go_wp2_with (first
  |(refine A8u rfl _ _ _ rfl _ rfl rfl _ _ (by rw[A2x];exact B0p) (by simp[A2x,zs8]) (B6s _) ?_))
 clear hz;have HT1:=hzz (heap_alloc_last w1 (.cells (A8s A0g) 164));have HB2:=hzz (HB1.out.alloc HB1.out.size (.cells (A8s A0g) 164))
 have hg1:w1.heap.size<(w1.alloc (.cells (A8s A0g) 164)).heap.size:=by simp
 generalize w1.alloc _=w2 at*;generalize hgt:w1.heap.size=gt at*;clear hgt HB1
 go_loopg [5,6] n (fun gn v i wr=>∃p fuel m:Nat,∃acc,p<=n/\gn=n-p/\i= .int .i64 p/\n<fuel+p/\m<=p/\Hid (wr.ownsRow w.heap.size 118 4 v m (acc.flatMap RW.cells))/\Hid (∀r∈acc,A4b r.pos/\A4b r.a/\r.op<256)/\
  Hid (wr.heap[gt]? =some (.cells (A8s A0g) 164))/\Hid (Below w.heap.size w wr)/\Hid (B1v bs (bs.length+1) 0 []=B1v bs fuel p acc)/\gt<wr.heap.size)
 case atStart=>exact⟨0,n+1,0,[],by omega,by omega,by go_num,by omega,by omega,hzz (World.ownsRow_nil _ _ _ _),hzz (fun r hr=>by cases hr),HT1,HB2,hzz (by rw[HLn.out]),hg1⟩
 obtain⟨p,fuel,m,acc,hp,rfl,rfl,hf,hm,HO,HW,HT,HB,HD,hgl⟩:=hrel;by_cases hlt:p<n
 ·obtain⟨fuel,rfl⟩:∃f,fuel=f+1:=⟨fuel-1,by omega⟩;obtain⟨b,off,rfl,hbl,hc⟩:=(HS.out.below HB.out).2 (by omega);have hpl:p<bs.length:=by rw[HLn.out];exact hlt
  have q0:=hc p hpl;have hop:bs[p].toNat=A6n bs p:=by unfold A6n;simp[List.getD,hpl]
  unfold A5f at q0;rw[hop]at q0;have hol:=C9k bs p;have hf9:=A4z (A6n bs p)
  have HRD:=hzz (fun(w':World) (hb:Below w.heap.size w w') (g:Nat) (hk:B0b w' g p (A6n bs p) 0 0) (h0:A0g (A6n bs p)≠0)=>D2p w' (some ⟨b,off,none⟩) n cap bs g p (A6n bs p) (A0g (A6n bs p)) (HS.out.below hb) (by omega) hcap (by omega) hk h0 hf9)
  have HSZ:=hzz (fun(w':World)=>A4k w' (A0g (A6n bs p)) hf9);have HNO:=hzz (C9f bs fuel p acc hpl);have HSH:=hzz (C6n bs fuel p acc hpl)
  have HBA:=hzz (D2r bs fuel p acc hpl);have HNX:=hzz (B7x bs fuel p acc hpl);have HRW:Hid (B2j bs p=⟨p,A6n bs p,A3a bs p (A0g (A6n bs p)),A4c bs p (A0g (A6n bs p))⟩):=hzz rfl
  have HWF:=hzz (D4a bs p (by omega));have hsp:=fun h0=>B1j (f:=A0g (A6n bs p)) h0 hf9
  have hs3:=B3d (A0g (A6n bs p));have tc:wr.cell? ⟨gt,A6n bs p,none⟩=some (.int .u8 (A0g (A6n bs p):Nat)):=by rw[cell_of_row wr _ _ _ _ _ HT.out];exact B0s _ _ hol
  have p1:(p:Int)<n:=by omega
  have o1:(A6n bs p:Int)<256:=by omega
  rw[HLn.out]at HSH HBA HNX;clear hc hop hpl;unfold A6c at HRD;generalize A5k bs p (A0g (A6n bs p))=bad at*;generalize A3a bs p (A0g (A6n bs p))=ra at*
  generalize A4c bs p (A0g (A6n bs p))=rb at*;generalize A0g (A6n bs p)=f at*;generalize A0w f=s at*;generalize A6n bs p=o at*;by_cases h0:f=0
  ·subst h0;have HQ:=hzz (show R=(8,[]) by rw[HR.out];exact B2f H4.out (by rw[HD.out];exact HNO.out rfl) (by decide));clear HNO HSH HBA HNX HRD HSZ
   go_wp2_with fail
   go_ret2;exact A6a.err HQ.out (HB.out.alloc HB.out.size _)
  have hs1:=hsp h0;have e0:((f:Int)==0)=false:=by simp;omega
  clear hsp;by_cases h1:n-p<s
  ·have HQ:=hzz (show R=(6,[]) by rw[HR.out];exact B2f H4.out (by rw[HD.out];exact HSH.out h0 h1) (by decide));have e2:decide ((n:Int) -p<s)=true:=by simp;omega
   clear HNO HSH HBA HNX HRD h0
   go_wp2_with fail
   refine(HSZ.out _).mono ?_;rintro e w' ⟨rfl,rfl⟩
   go_wp2_with fail
   go_ret2;exact A6a.err HQ.out (HB.out.alloc HB.out.size _)
  have e2:decide ((n:Int) -p<s)=false:=by simp;omega
  have H0:=hzz h0;have H1:=hzz h1;have hsn:p+s<=n:=by omega
  clear h0 h1
  go_wp2_with fail
  refine(HSZ.out _).mono ?_;rintro e w' ⟨rfl,rfl⟩
  go_wp2_with fail
  have hal:Below w.heap.size w (wr.alloc (.cells #[.int .i64 p,.int .u8 (o:Nat),.int .i64 0,.int .i64 0] 118)):=HB.out.alloc HB.out.size _
  refine(HRD.out _ hal wr.heap.size (heap_alloc_last wr _) H0.out).mono ?_;rintro e w3 ⟨rfl,hk3,hg3⟩
  have HWW:=hzz (((Below.refl wr.heap.size wr).alloc nlz (.cells #[.int .i64 p,.int .u8 (o:Nat),.int .i64 0,.int .i64 0] 118)).grown hg3 (by simp) (fun k hk=>by cases hk;exact Nat.le_refl _))
  have HB3:=btz HB HWW.out;have HK3:=hzz hk3;clear hk3 hg3 hal;obtain⟨⟨c0,c1,c2,c3⟩,_,hgw⟩:=HK3.out.box
  cases bad
  ·simp only[Bool.false_eq_true,if_false];have HO3:=hzz (A0x HO.out HWW.out);have HT3:=hzz (show w3.heap[gt]? =some (.cells (A8s A0g) 164) by rw[HWW.out.block gt hgl];exact HT.out)
   have hg3':gt<w3.heap.size:=(Array.getElem?_eq_some_iff.1 HT3.out).1;have HDN:=hzz (HD.out.trans (HNX.out H0.out H1.out rfl));rw[HRW.out]at HDN HWF
   go_wp2_with (at_builtin;first
    |(refine A0q stR rfl _ _ rfl w.heap.size _ _ _ rfl HO3.out _ 1 _ _ rfl rfl rfl rfl (by omega) (by unfold maxLen;omega) HB3.out.size ?_;intro v4 w4 hown4 hg4 hb4;have HO4:=hzz hown4;have HB4:=hzz (HB3.out.trans hb4);have HT4:=hzz (B8i HO3.out hg4 HT3.out (by decide));have hg4':=D0c hg4 hg3';clear hown4 hg4 hb4))
   refine(HSZ.out _).mono ?_;rintro e w' ⟨rfl,rfl⟩
   go_wp2_with fail
   go_roundg (n-(p+s))
   case measure=>omega
   case rel=>exact⟨p+s,fuel,m+1,acc++[⟨p,o,ra,rb⟩],by omega,rfl,by go_num,by omega,by omega,hzz (by rw[List.flatMap_append];exact HO4.out),hzz (fun r hr=>by
    rcases List.mem_append.1 hr with h|h
    ·exact HW.out r h
    rw[List.mem_singleton.1 h];exact HWF.out),HT4,HB4,HDN,hg4'⟩
  simp only[if_true];have HQ:=hzz (show R=(8,[]) by rw[HR.out];exact B2f H4.out (by rw[HD.out];exact HBA.out H0.out H1.out rfl) (by decide));clear HNO HSH HBA HNX HRD HSZ
  go_wp2_with fail
  go_ret2;exact A6a.err HQ.out HB3.out
 obtain rfl:p=n:=by omega
 have HDE:=hzz (HD.out.trans (C3v bs fuel p acc (by rw[HLn.out];exact Nat.le_refl _)));obtain⟨va,vc,rfl,hss,hcc⟩:=Ss.ofOwn RW.cells_length (by decide) HO.out
 have HG:=hzz (fun w' (hb:Below wr.heap.size wr w')=>C3h w' va m vc acc (Rs.below hss hb) (by omega) HW.out);clear hss
 go_wp2_with (first
  |(refine wpList_load_row rfl _ _ rfl _ rfl _ _ _ _ HT.out Tryz.underlying164 rfl (by rw[A2x];exact B0p) ?_))
 refine(HG.out _ brz).mono ?_;rintro e w3 ⟨rfl,hb3⟩;have HB3:=btz HB hb3;have HO3:=hzz (A0x HO.out hb3);clear hb3
 cases hg:A7e acc
 ·have HQ:=hzz (show R=(2,[]) by rw[HR.out];exact B7y H4.out HDE.out hg);clear hg
  go_wp2_with fail
  go_ret2;exact A6a.err HQ.out HB3.out
 have HQ:=hzz (show R=(0,acc) by rw[HR.out];exact B8t H4.out HDE.out hg);clear hg
 go_wp2_with fail
 go_ret2;exact⟨_,m,by rw[HQ.out];rfl,by rw[HQ.out];exact HO3.out,by rw[HQ.out];exact HW.out,HB3.out⟩
theorem A5n(w:World)(n lo hi:Int):Calls Tryz.prog 176 #[.int .i64 n,.int .i64 lo,.int .i64 hi] w fun e w'=>e= .returned (.bool (decide (lo<=n/\n<=hi)))/\w=w':=by
 by_cases h1:lo<=n
 ·by_cases h2:n<=hi
  ·rw[decide_eq_true (And.intro h1 h2)];have e1:=decide_eq_true h1;have e2:=decide_eq_true h2;go_enter Tryz.func176,Tryz.ntmps176
   go_wp2_with fail
   go_ret;exact⟨rfl,rfl⟩
  rw[decide_eq_false (fun x:lo<=n/\n<=hi=>h2 x.2)];have e1:=decide_eq_true h1;have e2:=decide_eq_false h2;go_enter Tryz.func176,Tryz.ntmps176
  go_wp2_with fail
  go_ret;exact⟨rfl,rfl⟩
 rw[decide_eq_false (fun x:lo<=n/\n<=hi=>h1 x.1)];have e1:=decide_eq_false h1;go_enter Tryz.func176,Tryz.ntmps176
 go_wp2_with fail
 go_ret;exact⟨rfl,rfl⟩
def A6u(r:Bool)(w:World)(e:Ending)(w':World):Prop:=e= .returned (.bool r)/\Below w.heap.size w w'
theorem E0s(w:World)(p:Int)(k:Nat)(x y:Int):Calls Tryz.prog 156 #[.agg #[.int .i64 p,.int .u8 (k:Nat),.int .i64 x,.int .i64 y],.int .i64 0] w (A6u (A1h ⟨p,k,x,y⟩ 0) w):=by
 by_cases hy:y=0
 ·rw[show A1h ⟨p,k,x,y⟩ 0=false from by unfold A1h;simp[hy]];subst hy;go_enter Tryz.func156,Tryz.ntmps156
  go_wp2_with fail
  go_ret;exact⟨rfl,brz.alloc nlz _⟩
 rw[show A1h ⟨p,k,x,y⟩ 0=false from by unfold A1h;simp[hy]];have ey:(y !=0)=true:=by simp[hy]
 clear hy;go_enter Tryz.func156,Tryz.ntmps156
 go_wp2_with fail
 go_ret;exact⟨rfl,brz.alloc nlz _⟩
theorem D9e(w:World)(p:Int)(k:Nat)(x y:Int):Calls Tryz.prog 156 #[.agg #[.int .i64 p,.int .u8 (k:Nat),.int .i64 x,.int .i64 y],.int .i64 1] w (A6u (A1h ⟨p,k,x,y⟩ 1) w):=by
 by_cases hy:y=0
 ·rw[show A1h ⟨p,k,x,y⟩ 1=decide (x=0)from by unfold A1h;simp[hy]];subst hy;by_cases ha:x=0
  ·subst ha;go_enter Tryz.func156,Tryz.ntmps156
   go_wp2_with fail
   go_ret;exact⟨rfl,brz.alloc nlz _⟩
  have ea:(x==0)=false:=by simp[ha]
  rw[decide_eq_false ha];clear ha;go_enter Tryz.func156,Tryz.ntmps156
  go_wp2_with fail
  go_ret;exact⟨rfl,brz.alloc nlz _⟩
 rw[show A1h ⟨p,k,x,y⟩ 1=false from by unfold A1h;simp[hy]];have ey:(y !=0)=true:=by simp[hy]
 clear hy;go_enter Tryz.func156,Tryz.ntmps156
 go_wp2_with fail
 go_ret;exact⟨rfl,brz.alloc nlz _⟩
theorem D9w(w:World)(p:Int)(k:Nat)(x y:Int):Calls Tryz.prog 156 #[.agg #[.int .i64 p,.int .u8 (k:Nat),.int .i64 x,.int .i64 y],.int .i64 2] w (A6u (A1h ⟨p,k,x,y⟩ 2) w):=by
 by_cases hy:y=0
 ·rw[show A1h ⟨p,k,x,y⟩ 2=decide ((0:Int)<=x/\x<=255)from by unfold A1h;simp[hy]];subst hy;have HWI:=hzz (fun w'=>A5n w' x (0) (255))
  generalize decide ((0:Int)<=x/\x<=255)=d at*;go_enter Tryz.func156,Tryz.ntmps156
  go_wp2_with fail
  refine(HWI.out _).mono ?_;rintro e w' ⟨rfl,rfl⟩
  go_wp2_with fail
  go_ret;exact⟨rfl,brz.alloc nlz _⟩
 rw[show A1h ⟨p,k,x,y⟩ 2=false from by unfold A1h;simp[hy]];have ey:(y !=0)=true:=by simp[hy]
 clear hy;go_enter Tryz.func156,Tryz.ntmps156
 go_wp2_with fail
 go_ret;exact⟨rfl,brz.alloc nlz _⟩
theorem D9a(w:World)(p:Int)(k:Nat)(x y:Int):Calls Tryz.prog 156 #[.agg #[.int .i64 p,.int .u8 (k:Nat),.int .i64 x,.int .i64 y],.int .i64 3] w (A6u (A1h ⟨p,k,x,y⟩ 3) w):=by
 by_cases hy:y=0
 ·rw[show A1h ⟨p,k,x,y⟩ 3=decide ((-128:Int)<=x/\x<=127)from by unfold A1h;simp[hy]];subst hy;have HWI:=hzz (fun w'=>A5n w' x (-128) (127))
  generalize decide ((-128:Int)<=x/\x<=127)=d at*;go_enter Tryz.func156,Tryz.ntmps156
  go_wp2_with fail
  refine(HWI.out _).mono ?_;rintro e w' ⟨rfl,rfl⟩
  go_wp2_with fail
  go_ret;exact⟨rfl,brz.alloc nlz _⟩
 rw[show A1h ⟨p,k,x,y⟩ 3=false from by unfold A1h;simp[hy]];have ey:(y !=0)=true:=by simp[hy]
 clear hy;go_enter Tryz.func156,Tryz.ntmps156
 go_wp2_with fail
 go_ret;exact⟨rfl,brz.alloc nlz _⟩
theorem D8p(w:World)(p:Int)(k:Nat)(x y:Int):Calls Tryz.prog 156 #[.agg #[.int .i64 p,.int .u8 (k:Nat),.int .i64 x,.int .i64 y],.int .i64 4] w (A6u (A1h ⟨p,k,x,y⟩ 4) w):=by
 by_cases hy:y=0
 ·rw[show A1h ⟨p,k,x,y⟩ 4=decide ((-32768:Int)<=x/\x<=32767)from by unfold A1h;simp[hy]];subst hy;have HWI:=hzz (fun w'=>A5n w' x (-32768) (32767))
  generalize decide ((-32768:Int)<=x/\x<=32767)=d at*;go_enter Tryz.func156,Tryz.ntmps156
  go_wp2_with fail
  refine(HWI.out _).mono ?_;rintro e w' ⟨rfl,rfl⟩
  go_wp2_with fail
  go_ret;exact⟨rfl,brz.alloc nlz _⟩
 rw[show A1h ⟨p,k,x,y⟩ 4=false from by unfold A1h;simp[hy]];have ey:(y !=0)=true:=by simp[hy]
 clear hy;go_enter Tryz.func156,Tryz.ntmps156
 go_wp2_with fail
 go_ret;exact⟨rfl,brz.alloc nlz _⟩
theorem D8u(w:World)(p:Int)(k:Nat)(x y:Int):Calls Tryz.prog 156 #[.agg #[.int .i64 p,.int .u8 (k:Nat),.int .i64 x,.int .i64 y],.int .i64 5] w (A6u (A1h ⟨p,k,x,y⟩ 5) w):=by
 by_cases hy:y=0
 ·rw[show A1h ⟨p,k,x,y⟩ 5=decide ((0:Int)<=x/\x<=255)from by unfold A1h;simp[hy]];subst hy;have HWI:=hzz (fun w'=>A5n w' x (0) (255))
  generalize decide ((0:Int)<=x/\x<=255)=d at*;go_enter Tryz.func156,Tryz.ntmps156
  go_wp2_with fail
  refine(HWI.out _).mono ?_;rintro e w' ⟨rfl,rfl⟩
  go_wp2_with fail
  go_ret;exact⟨rfl,brz.alloc nlz _⟩
 rw[show A1h ⟨p,k,x,y⟩ 5=false from by unfold A1h;simp[hy]];have ey:(y !=0)=true:=by simp[hy]
 clear hy;go_enter Tryz.func156,Tryz.ntmps156
 go_wp2_with fail
 go_ret;exact⟨rfl,brz.alloc nlz _⟩
theorem D9c(w:World)(p:Int)(k:Nat)(x y:Int):Calls Tryz.prog 156 #[.agg #[.int .i64 p,.int .u8 (k:Nat),.int .i64 x,.int .i64 y],.int .i64 6] w (A6u (A1h ⟨p,k,x,y⟩ 6) w):=by
 by_cases hy:y=0
 ·rw[show A1h ⟨p,k,x,y⟩ 6=decide ((0:Int)<=x/\x<=65535)from by unfold A1h;simp[hy]];subst hy;have HWI:=hzz (fun w'=>A5n w' x (0) (65535))
  generalize decide ((0:Int)<=x/\x<=65535)=d at*;go_enter Tryz.func156,Tryz.ntmps156
  go_wp2_with fail
  refine(HWI.out _).mono ?_;rintro e w' ⟨rfl,rfl⟩
  go_wp2_with fail
  go_ret;exact⟨rfl,brz.alloc nlz _⟩
 rw[show A1h ⟨p,k,x,y⟩ 6=false from by unfold A1h;simp[hy]];have ey:(y !=0)=true:=by simp[hy]
 clear hy;go_enter Tryz.func156,Tryz.ntmps156
 go_wp2_with fail
 go_ret;exact⟨rfl,brz.alloc nlz _⟩
theorem E0u(w:World)(p:Int)(k:Nat)(x y:Int):Calls Tryz.prog 156 #[.agg #[.int .i64 p,.int .u8 (k:Nat),.int .i64 x,.int .i64 y],.int .i64 7] w (A6u (A1h ⟨p,k,x,y⟩ 7) w):=by
 by_cases hy:y=0
 ·rw[show A1h ⟨p,k,x,y⟩ 7=true from by unfold A1h;simp[hy]];subst hy;go_enter Tryz.func156,Tryz.ntmps156
  go_wp2_with fail
  go_ret;exact⟨rfl,brz.alloc nlz _⟩
 rw[show A1h ⟨p,k,x,y⟩ 7=false from by unfold A1h;simp[hy]];have ey:(y !=0)=true:=by simp[hy]
 clear hy;go_enter Tryz.func156,Tryz.ntmps156
 go_wp2_with fail
 go_ret;exact⟨rfl,brz.alloc nlz _⟩
theorem E0g(w:World)(p:Int)(k:Nat)(x y:Int):Calls Tryz.prog 156 #[.agg #[.int .i64 p,.int .u8 (k:Nat),.int .i64 x,.int .i64 y],.int .i64 8] w (A6u (A1h ⟨p,k,x,y⟩ 8) w):=by
 rw[show A1h ⟨p,k,x,y⟩ 8=(decide ((0:Int)<=x/\x<=255)&&decide ((-128:Int)<=y/\y<=127))from by unfold A1h;simp];have HWI:=hzz (fun w'=>A5n w' x 0 255)
 have HWJ:=hzz (fun w'=>A5n w' y (-128) 127);generalize decide ((0:Int)<=x/\x<=255)=d at*;generalize decide ((-128:Int)<=y/\y<=127)=d2 at*
 cases d
 ·go_enter Tryz.func156,Tryz.ntmps156
  go_wp2_with fail
  refine(HWI.out _).mono ?_;rintro e w' ⟨rfl,rfl⟩
  go_wp2_with fail
  go_ret;exact⟨rfl,brz.alloc nlz _⟩
 go_enter Tryz.func156,Tryz.ntmps156
 go_wp2_with fail
 refine(HWI.out _).mono ?_;rintro e w' ⟨rfl,rfl⟩
 go_wp2_with fail
 refine(HWJ.out _).mono ?_;rintro e w' ⟨rfl,rfl⟩
 go_wp2_with fail
 go_ret;exact⟨rfl,brz.alloc nlz _⟩
theorem D8n(w:World)(p:Int)(k:Nat)(x y:Int):Calls Tryz.prog 156 #[.agg #[.int .i64 p,.int .u8 (k:Nat),.int .i64 x,.int .i64 y],.int .i64 9] w (A6u (A1h ⟨p,k,x,y⟩ 9) w):=by
 by_cases hy:y=0
 ·rw[show A1h ⟨p,k,x,y⟩ 9=decide (x=8\/x=10)from by unfold A1h;simp[hy]];subst hy;by_cases h8:x=8
  ·subst h8;rw[decide_eq_true (.inl rfl)];go_enter Tryz.func156,Tryz.ntmps156
   go_wp2_with fail
   go_ret;exact⟨rfl,brz.alloc nlz _⟩
  by_cases h10:x=10
  ·subst h10;rw[decide_eq_true (.inr rfl)];go_enter Tryz.func156,Tryz.ntmps156
   go_wp2_with fail
   go_ret;exact⟨rfl,brz.alloc nlz _⟩
  have e8:(x==8)=false:=by simp[h8]
  have e10:(x==10)=false:=by simp[h10]
  rw[decide_eq_false (fun z:x=8\/x=10=>z.elim h8 h10)];clear h8 h10;go_enter Tryz.func156,Tryz.ntmps156
  go_wp2_with fail
  go_ret;exact⟨rfl,brz.alloc nlz _⟩
 rw[show A1h ⟨p,k,x,y⟩ 9=false from by unfold A1h;simp[hy]];have ey:(y !=0)=true:=by simp[hy]
 clear hy;go_enter Tryz.func156,Tryz.ntmps156
 go_wp2_with fail
 go_ret;exact⟨rfl,brz.alloc nlz _⟩
theorem D2x(w:World)(r:RW)(f:Nat)(hf:f<=9):Calls Tryz.prog 156 #[.agg #[.int .i64 r.pos,.int .u8 (r.op:Nat),.int .i64 r.a,.int .i64 r.b],.int .i64 (f:Nat)] w (A6u (A1h r f) w):=by
 obtain⟨p,k,x,y⟩:=r;have h:f=0\/f=1\/f=2\/f=3\/f=4\/f=5\/f=6\/f=7\/f=8\/f=9:=by omega
 rcases h with rfl|rfl|rfl|rfl|rfl|rfl|rfl|rfl|rfl|rfl
 ·exact E0s w p k x y
 ·exact D9e w p k x y
 ·exact D9w w p k x y
 ·exact D9a w p k x y
 ·exact D8p w p k x y
 ·exact D8u w p k x y
 ·exact D9c w p k x y
 ·exact E0u w p k x y
 ·exact E0g w p k x y
 exact D8n w p k x y
end
end Go.Proofs.YtclpkipaehpkdaaGreatDoor
