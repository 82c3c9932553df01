/- asm: own texts, merged (wip/merge3.py). No condition. -/
import Derived.Test.YtclpkipaehpkdaaGreatDoorQ07AsmLifts
import Derived.Test.YtclpkipaehpkdaaGreatDoorQ00AsmLifts
import Derived.Test.YtclpkipaehpkdaaGreatDoorQ01AsmLifts
set_option linter.unusedVariables false
set_option linter.unusedSimpArgs false
set_option maxRecDepth 100000
set_option maxHeartbeats 64000000
namespace Go.Proofs.YtclpkipaehpkdaaGreatDoor
section
open Go.ChangeShapes Go.WideShapes Go.ChangeAt Go.RowKit
def A7w(w:World)(g:Nat)(p:Int)(k:Nat)(x y:Int):Prop:=w.heap[g]? =some (.cells #[.int .i64 p,.int .u8 (k:Nat),.int .i64 x,.int .i64 y] 118)
theorem A7w.below{w w':World}{g:Nat}{p:Int}{k:Nat}{x y:Int}(h:A7w w g p k x y)(hb:Below w.heap.size w w'):A7w w' g p k x y:=by
 unfold A7w;rw[hb.block g (Array.getElem?_eq_some_iff.1 h).1];exact h
theorem A7w.box{w:World}{g:Nat}{p:Int}{k:Nat}{x y:Int}(h:A7w w g p k x y):(w.cell? ⟨g,0,none⟩=some (.int .i64 p)∧w.cell? ⟨g,1,none⟩=some (.int .u8 (k:Nat))∧w.cell? ⟨g,2,none⟩=some (.int .i64 x)∧w.cell? ⟨g,3,none⟩=some (.int .i64 y))∧
  (w.frozen? ⟨g,2,none⟩=false∧w.frozen? ⟨g,3,none⟩=false)∧g<w.heap.size:=by
 refine⟨⟨?_,?_,?_,?_⟩,⟨?_,?_⟩,(Array.getElem?_eq_some_iff.1 h).1⟩
 ·rw[cell_of_row w g 0 _ _ _ h];rfl
 ·rw[cell_of_row w g 1 _ _ _ h];rfl
 ·rw[cell_of_row w g 2 _ _ _ h];rfl
 ·rw[cell_of_row w g 3 _ _ _ h];rfl
 all_goals (unfold World.frozen?;rw[h];rfl)
theorem A7w.set2{w:World}{g:Nat}{p:Int}{k:Nat}{x y x':Int}(h:A7w w g p k x y):A7w (w.setCell ⟨g,2,none⟩ (.int .i64 x')) g p k x' y:=B5d h 2 _
theorem A7w.set3{w:World}{g:Nat}{p:Int}{k:Nat}{x y y':Int}(h:A7w w g p k x y):A7w (w.setCell ⟨g,3,none⟩ (.int .i64 y')) g p k x y':=B5d h 3 _
theorem A4n{w w':World}{g o:Nat}{v:Value}(h:w.grownBy w' (some g)):w.grownBy (w'.setCell ⟨g,o,none⟩ v) (some g):=
 ⟨h.os,h.tape,h.output,by rw[B8n];exact h.size,fun k hk hne=>by rw[B1v (fun e=>hne (by rw[e]))];exact h.block k hk hne⟩
theorem A3g{w w':World}{row:Option Nat}(h:Below w.heap.size w w'):w.grownBy w' row:=⟨h.os,h.tape,h.output,h.size,fun k hk _=>h.block k hk⟩
theorem B2w{w w':World}{r:Option Nat}(h:w.grownBy w' r):w.grownBy w'.drew r:=⟨h.os,h.tape,h.output,h.size,h.block⟩
def D6v(y1:World)(g p k:Nat)(w':World):Prop:=(∃x,A7w w' g p k x 0)∧y1.grownBy w' (some g)
def A6i(bs:List UInt8)(p f g k:Nat)(w:World)(e:Ending)(w':World):Prop:=
 e= .returned (.int .i64 (if A2b bs p f=true then 8 else 0))∧A7w w' g p k (A1s bs p f) (A2f bs p f)∧w.grownBy w' (some g)
theorem A2a(bs:List UInt8)(i n:Int):U64 (A5s bs i n).1:=by
 unfold A5s U64;by_cases h1:n<1∨8<n
 ·rw[if_pos h1];exact⟨by decide,by decide⟩
 rw[if_neg h1];by_cases h2:i<0∨(bs.length:Int)<i∨(bs.length:Int) -i<n
 ·rw[if_pos h2];exact⟨by decide,by decide⟩
 rw[if_neg h2];have h3:=B7e ((bs.drop i.toNat).take n.toNat);have h4:256^((bs.drop i.toNat).take n.toNat).length≤256^8:=Nat.pow_le_pow_right (by decide) (by simp;omega);simp only;omega
theorem A1x(bs:List UInt8)(i n:Int)(m:Nat)(hn:n≤m)(hm:m≤8):(A5s bs i n).1<((256^m:Nat):Int):=by
 have hp:0<256^m:=Nat.pow_pos (by decide);unfold A5s;by_cases h1:n<1∨8<n
 ·rw[if_pos h1];exact Int.ofNat_lt.2 hp
 rw[if_neg h1];by_cases h2:i<0∨(bs.length:Int)<i∨(bs.length:Int) -i<n
 ·rw[if_pos h2];exact Int.ofNat_lt.2 hp
 rw[if_neg h2];have h3:=B7e ((bs.drop i.toNat).take n.toNat);have h4:256^((bs.drop i.toNat).take n.toNat).length≤256^m:=Nat.pow_le_pow_right (by decide) (by simp;omega)
 exact Int.ofNat_lt.2 (Nat.lt_of_lt_of_le h3 h4)
theorem B2s(v:Int): -128≤A2p v 1∧A2p v 1≤127:=by rw[show A2p v 1=(v+128)%256-128 from rfl];omega
theorem B5e(v:Int): -32768≤A2p v 2∧A2p v 2≤32767:=by rw[show A2p v 2=(v+32768)%65536-32768 from rfl];omega
theorem E0p(w:World)(a:Option Addr)(n cap:Nat)(bs:List UInt8)(g p k:Nat)(hs:Sl A5f w a n bs)(hn:n≤1048576)(hcap:n≤cap)(hp:p≤1048576)(hb:A7w w g p k 0 0):
  Calls Tryz.prog 100 #[.slice a n cap,.pointer (some ⟨g,0,none⟩),.int .i64 1] w (A6i bs p 1 g k w):=by
 have HS:=Lib.hid hs;have HBK:=Lib.hid hb;have HV:Hid ((A5s bs ((p:Int)+1) 1).1=A2d bs p 1):=Lib.hid rfl;have HU:=Lib.hid (A2a bs ((p:Int)+1) 1)
 have hsm:=A1x bs ((p:Int)+1) 1 1 (by decide) (by decide)
 have HC:=Lib.hid (fun w' (h:Below w.heap.size w w')=>A8m w' a n cap bs ((p:Int)+1) 1 (hs.below h) hn hcap (by unfold A4x;omega) (by unfold A4x;omega));rw[HV.out]at HC HU hsm
 generalize(A5s bs ((p:Int)+1) 1).2=e2 at*;have HRA:Hid (A1s bs p 1=0):=Lib.hid (by unfold A1s;simp);have HRB:Hid (A2f bs p 1=0):=Lib.hid (by unfold A2f;simp)
 obtain⟨x,hx⟩:∃x,x=A1s bs p 1:=⟨_,rfl⟩;obtain⟨y,hy⟩:∃y,y=A2f bs p 1:=⟨_,rfl⟩;have HX:=Lib.hid hx;have HY:=Lib.hid hy;rw[←hx]at HRA;rw[←hy]at HRB;clear hs hb hx hy HV
 generalize A2d bs p 1=v at*;rw[show((256^1:Nat):Int)=256 from rfl]at hsm;have hv0:=HU.out.1;go_enter Tryz.func100,Tryz.ntmps100
 go_wp2_with fail
 obtain⟨⟨c0,c1,c2,c3⟩,_,hgl⟩:=HBK.out.box;have d0:=fun w' (h:Below w.heap.size w w')=>A0f h c0
 clear c0 c1 c2 c3
 refine A0g (Below w.heap.size w) (.stir [(0,true),(1,true),(2,true),(3,true),(4,true),(5,true),(6,true),(7,false),(8,true),(9,true),(10,false),(11,true),(12,true),(13,true),(14,true),(15,true)]) (by kernel_rfl) (by kernel_rfl) (fun c a d v w h=>by cases d<;>exact h) ?_
 refine A0m (Below w.heap.size w) (fun _ h=>h) (Below.refl _ _).drew ?_
 iterate 7
  refine A0i fun K hK=>tkX ?_
  go_simp
  try go_bits
  refine hK _ ?_;clear hK K
 refine A0i (fun K hK=> ?_);simp only[A2r,List.getElem?_toArray,List.getElem?_cons_succ,List.getElem?_cons_zero];rw[if_pos (by rfl)];apply Exists.intro;refine⟨fun w' hS'=> ?_,?_⟩
 ·go_simp;exact A4y.call (Calls.mono ((A5d w' 1 (by decide))) fun e w'' h=>⟨h.1,(fun hb''=>hb''▸hS') h.2⟩)
 go_simp;refine hK _ ?_;clear hK K;rw[show A2m 1=1 from rfl]
 iterate 2
  refine A0i fun K hK=>tkX ?_
  go_simp
  try go_bits
  refine hK _ ?_;clear hK K
 refine A0i (fun K hK=> ?_);simp only[A2r,List.getElem?_toArray,List.getElem?_cons_succ,List.getElem?_cons_zero];rw[if_pos (by rfl)];apply Exists.intro;refine⟨fun w' hS'=> ?_,?_⟩
 ·go_simp;exact A4y.call (Calls.mono ((HC.out w' hS')) fun e w'' h=>⟨h.1,(fun hb''=>hb''▸hS') h.2⟩)
 go_simp;refine hK _ ?_;clear hK K
 iterate 5
  refine A0i fun K hK=>tkX ?_
  go_simp
  try go_bits
  refine hK _ ?_;clear hK K
 refine A0p (fun y1 hy=> ?_);have HY1:=Lib.hid hy;have HB1:=Lib.hid (HBK.out.below hy);clear d0 hy HC;obtain⟨⟨c0,c1,c2,c3⟩,⟨f2,f3⟩,hg1⟩:=HB1.out.box
 go_wp2_with fail
 go_ret;exact⟨rfl,by rw[←HX.out,←HY.out,HRA.out,HRB.out];exact HB1.out,A3g HY1.out⟩
theorem D9d(w:World)(a:Option Addr)(n cap:Nat)(bs:List UInt8)(g p k:Nat)(hs:Sl A5f w a n bs)(hn:n≤1048576)(hcap:n≤cap)(hp:p≤1048576)(hb:A7w w g p k 0 0):
  Calls Tryz.prog 100 #[.slice a n cap,.pointer (some ⟨g,0,none⟩),.int .i64 2] w (A6i bs p 2 g k w):=by
 have HS:=Lib.hid hs;have HBK:=Lib.hid hb;have HV:Hid ((A5s bs ((p:Int)+1) 1).1=A2d bs p 2):=Lib.hid rfl;have HU:=Lib.hid (A2a bs ((p:Int)+1) 1)
 have hsm:=A1x bs ((p:Int)+1) 1 1 (by decide) (by decide)
 have HC:=Lib.hid (fun w' (h:Below w.heap.size w w')=>A8m w' a n cap bs ((p:Int)+1) 1 (hs.below h) hn hcap (by unfold A4x;omega) (by unfold A4x;omega));rw[HV.out]at HC HU hsm
 generalize(A5s bs ((p:Int)+1) 1).2=e2 at*;have HRA:Hid (A1s bs p 2=A2d bs p 2):=Lib.hid (by unfold A1s;simp);have HRB:Hid (A2f bs p 2=0):=Lib.hid (by unfold A2f;simp)
 obtain⟨x,hx⟩:∃x,x=A1s bs p 2:=⟨_,rfl⟩;obtain⟨y,hy⟩:∃y,y=A2f bs p 2:=⟨_,rfl⟩;have HX:=Lib.hid hx;have HY:=Lib.hid hy;rw[←hx]at HRA;rw[←hy]at HRB;clear hs hb hx hy HV
 generalize A2d bs p 2=v at*;rw[show((256^1:Nat):Int)=256 from rfl]at hsm;have hv0:=HU.out.1;go_enter Tryz.func100,Tryz.ntmps100
 go_wp2_with fail
 obtain⟨⟨c0,c1,c2,c3⟩,_,hgl⟩:=HBK.out.box;have d0:=fun w' (h:Below w.heap.size w w')=>A0f h c0
 clear c0 c1 c2 c3
 refine A0g (Below w.heap.size w) (.stir [(0,true),(1,true),(2,true),(3,true),(4,true),(5,true),(6,true),(7,false),(8,true),(9,true),(10,false),(11,true),(12,true),(13,true),(14,true),(15,true)]) (by kernel_rfl) (by kernel_rfl) (fun c a d v w h=>by cases d<;>exact h) ?_
 refine A0m (Below w.heap.size w) (fun _ h=>h) (Below.refl _ _).drew ?_
 iterate 7
  refine A0i fun K hK=>tkX ?_
  go_simp
  try go_bits
  refine hK _ ?_;clear hK K
 refine A0i (fun K hK=> ?_);simp only[A2r,List.getElem?_toArray,List.getElem?_cons_succ,List.getElem?_cons_zero];rw[if_pos (by rfl)];apply Exists.intro;refine⟨fun w' hS'=> ?_,?_⟩
 ·go_simp;exact A4y.call (Calls.mono ((A5d w' 2 (by decide))) fun e w'' h=>⟨h.1,(fun hb''=>hb''▸hS') h.2⟩)
 go_simp;refine hK _ ?_;clear hK K;rw[show A2m 2=2 from rfl]
 iterate 2
  refine A0i fun K hK=>tkX ?_
  go_simp
  try go_bits
  refine hK _ ?_;clear hK K
 refine A0i (fun K hK=> ?_);simp only[A2r,List.getElem?_toArray,List.getElem?_cons_succ,List.getElem?_cons_zero];rw[if_pos (by rfl)];apply Exists.intro;refine⟨fun w' hS'=> ?_,?_⟩
 ·go_simp;exact A4y.call (Calls.mono ((HC.out w' hS')) fun e w'' h=>⟨h.1,(fun hb''=>hb''▸hS') h.2⟩)
 go_simp;refine hK _ ?_;clear hK K
 iterate 5
  refine A0i fun K hK=>tkX ?_
  go_simp
  try go_bits
  refine hK _ ?_;clear hK K
 refine A0p (fun y1 hy=> ?_);have HY1:=Lib.hid hy;have HB1:=Lib.hid (HBK.out.below hy);clear d0 hy HC;obtain⟨⟨c0,c1,c2,c3⟩,⟨f2,f3⟩,hg1⟩:=HB1.out.box
 go_wp2_with fail
 go_ret;exact⟨rfl,by rw[←HX.out,←HY.out,HRA.out,HRB.out];exact HB1.out.set2,A4n (A3g HY1.out)⟩
theorem D8p(w:World)(a:Option Addr)(n cap:Nat)(bs:List UInt8)(g p k:Nat)(hs:Sl A5f w a n bs)(hn:n≤1048576)(hcap:n≤cap)(hp:p≤1048576)(hb:A7w w g p k 0 0):
  Calls Tryz.prog 100 #[.slice a n cap,.pointer (some ⟨g,0,none⟩),.int .i64 3] w (A6i bs p 3 g k w):=by
 have HS:=Lib.hid hs;have HBK:=Lib.hid hb;have HV:Hid ((A5s bs ((p:Int)+1) 1).1=A2d bs p 3):=Lib.hid rfl;have HU:=Lib.hid (A2a bs ((p:Int)+1) 1)
 have hsm:=A1x bs ((p:Int)+1) 1 1 (by decide) (by decide)
 have HC:=Lib.hid (fun w' (h:Below w.heap.size w w')=>A8m w' a n cap bs ((p:Int)+1) 1 (hs.below h) hn hcap (by unfold A4x;omega) (by unfold A4x;omega));rw[HV.out]at HC HU hsm
 generalize(A5s bs ((p:Int)+1) 1).2=e2 at*;have HRA:Hid (A1s bs p 3=A2p (A2d bs p 3) 1):=Lib.hid (by unfold A1s;simp);have HRB:Hid (A2f bs p 3=0):=Lib.hid (by unfold A2f;simp)
 obtain⟨x,hx⟩:∃x,x=A1s bs p 3:=⟨_,rfl⟩;obtain⟨y,hy⟩:∃y,y=A2f bs p 3:=⟨_,rfl⟩;have HX:=Lib.hid hx;have HY:=Lib.hid hy;rw[←hx]at HRA;rw[←hy]at HRB;clear hs hb hx hy HV
 generalize A2d bs p 3=v at*;rw[show((256^1:Nat):Int)=256 from rfl]at hsm;have hv0:=HU.out.1;go_enter Tryz.func100,Tryz.ntmps100
 go_wp2_with fail
 obtain⟨⟨c0,c1,c2,c3⟩,_,hgl⟩:=HBK.out.box;have d0:=fun w' (h:Below w.heap.size w w')=>A0f h c0
 clear c0 c1 c2 c3
 refine A0g (Below w.heap.size w) (.stir [(0,true),(1,true),(2,true),(3,true),(4,true),(5,true),(6,true),(7,false),(8,true),(9,true),(10,false),(11,true),(12,true),(13,true),(14,true),(15,true)]) (by kernel_rfl) (by kernel_rfl) (fun c a d v w h=>by cases d<;>exact h) ?_
 refine A0m (Below w.heap.size w) (fun _ h=>h) (Below.refl _ _).drew ?_
 iterate 7
  refine A0i fun K hK=>tkX ?_
  go_simp
  try go_bits
  refine hK _ ?_;clear hK K
 refine A0i (fun K hK=> ?_);simp only[A2r,List.getElem?_toArray,List.getElem?_cons_succ,List.getElem?_cons_zero];rw[if_pos (by rfl)];apply Exists.intro;refine⟨fun w' hS'=> ?_,?_⟩
 ·go_simp;exact A4y.call (Calls.mono ((A5d w' 3 (by decide))) fun e w'' h=>⟨h.1,(fun hb''=>hb''▸hS') h.2⟩)
 go_simp;refine hK _ ?_;clear hK K;rw[show A2m 3=2 from rfl]
 iterate 2
  refine A0i fun K hK=>tkX ?_
  go_simp
  try go_bits
  refine hK _ ?_;clear hK K
 refine A0i (fun K hK=> ?_);simp only[A2r,List.getElem?_toArray,List.getElem?_cons_succ,List.getElem?_cons_zero];rw[if_pos (by rfl)];apply Exists.intro;refine⟨fun w' hS'=> ?_,?_⟩
 ·go_simp;exact A4y.call (Calls.mono ((HC.out w' hS')) fun e w'' h=>⟨h.1,(fun hb''=>hb''▸hS') h.2⟩)
 go_simp;refine hK _ ?_;clear hK K
 iterate 5
  refine A0i fun K hK=>tkX ?_
  go_simp
  try go_bits
  refine hK _ ?_;clear hK K
 refine A0p (fun y1 hy=> ?_);have HY1:=Lib.hid hy;have HB1:=Lib.hid (HBK.out.below hy);clear d0 hy HC;obtain⟨⟨c0,c1,c2,c3⟩,⟨f2,f3⟩,hg1⟩:=HB1.out.box
 have HSG:=Lib.hid (B3u y1 v 1 HU.out (by unfold A4x;omega))
 go_wp2_with fail
 refine HSG.out.mono ?_;rintro e w' ⟨rfl,rfl⟩
 go_wp2_with fail
 go_ret;exact⟨rfl,by rw[←HX.out,←HY.out,HRA.out,HRB.out];exact HB1.out.set2,A4n (A3g HY1.out)⟩
theorem D9n(w:World)(a:Option Addr)(n cap:Nat)(bs:List UInt8)(g p k:Nat)(hs:Sl A5f w a n bs)(hn:n≤1048576)(hcap:n≤cap)(hp:p≤1048576)(hb:A7w w g p k 0 0):
  Calls Tryz.prog 100 #[.slice a n cap,.pointer (some ⟨g,0,none⟩),.int .i64 4] w (A6i bs p 4 g k w):=by
 have HS:=Lib.hid hs;have HBK:=Lib.hid hb;have HV:Hid ((A5s bs ((p:Int)+1) 2).1=A2d bs p 4):=Lib.hid rfl;have HU:=Lib.hid (A2a bs ((p:Int)+1) 2)
 have hsm:=A1x bs ((p:Int)+1) 2 2 (by decide) (by decide)
 have HC:=Lib.hid (fun w' (h:Below w.heap.size w w')=>A8m w' a n cap bs ((p:Int)+1) 2 (hs.below h) hn hcap (by unfold A4x;omega) (by unfold A4x;omega));rw[HV.out]at HC HU hsm
 generalize(A5s bs ((p:Int)+1) 2).2=e2 at*;have HRA:Hid (A1s bs p 4=A2p (A2d bs p 4) 2):=Lib.hid (by unfold A1s;simp);have HRB:Hid (A2f bs p 4=0):=Lib.hid (by unfold A2f;simp)
 obtain⟨x,hx⟩:∃x,x=A1s bs p 4:=⟨_,rfl⟩;obtain⟨y,hy⟩:∃y,y=A2f bs p 4:=⟨_,rfl⟩;have HX:=Lib.hid hx;have HY:=Lib.hid hy;rw[←hx]at HRA;rw[←hy]at HRB;clear hs hb hx hy HV
 generalize A2d bs p 4=v at*;rw[show((256^2:Nat):Int)=65536 from rfl]at hsm;have hv0:=HU.out.1;go_enter Tryz.func100,Tryz.ntmps100
 go_wp2_with fail
 obtain⟨⟨c0,c1,c2,c3⟩,_,hgl⟩:=HBK.out.box;have d0:=fun w' (h:Below w.heap.size w w')=>A0f h c0
 clear c0 c1 c2 c3
 refine A0g (Below w.heap.size w) (.stir [(0,true),(1,true),(2,true),(3,true),(4,true),(5,true),(6,true),(7,false),(8,true),(9,true),(10,false),(11,true),(12,true),(13,true),(14,true),(15,true)]) (by kernel_rfl) (by kernel_rfl) (fun c a d v w h=>by cases d<;>exact h) ?_
 refine A0m (Below w.heap.size w) (fun _ h=>h) (Below.refl _ _).drew ?_
 iterate 7
  refine A0i fun K hK=>tkX ?_
  go_simp
  try go_bits
  refine hK _ ?_;clear hK K
 refine A0i (fun K hK=> ?_);simp only[A2r,List.getElem?_toArray,List.getElem?_cons_succ,List.getElem?_cons_zero];rw[if_pos (by rfl)];apply Exists.intro;refine⟨fun w' hS'=> ?_,?_⟩
 ·go_simp;exact A4y.call (Calls.mono ((A5d w' 4 (by decide))) fun e w'' h=>⟨h.1,(fun hb''=>hb''▸hS') h.2⟩)
 go_simp;refine hK _ ?_;clear hK K;rw[show A2m 4=3 from rfl]
 iterate 2
  refine A0i fun K hK=>tkX ?_
  go_simp
  try go_bits
  refine hK _ ?_;clear hK K
 refine A0i (fun K hK=> ?_);simp only[A2r,List.getElem?_toArray,List.getElem?_cons_succ,List.getElem?_cons_zero];rw[if_pos (by rfl)];apply Exists.intro;refine⟨fun w' hS'=> ?_,?_⟩
 ·go_simp;exact A4y.call (Calls.mono ((HC.out w' hS')) fun e w'' h=>⟨h.1,(fun hb''=>hb''▸hS') h.2⟩)
 go_simp;refine hK _ ?_;clear hK K
 iterate 5
  refine A0i fun K hK=>tkX ?_
  go_simp
  try go_bits
  refine hK _ ?_;clear hK K
 refine A0p (fun y1 hy=> ?_);have HY1:=Lib.hid hy;have HB1:=Lib.hid (HBK.out.below hy);clear d0 hy HC;obtain⟨⟨c0,c1,c2,c3⟩,⟨f2,f3⟩,hg1⟩:=HB1.out.box
 have HSG:=Lib.hid (B3u y1 v 2 HU.out (by unfold A4x;omega))
 go_wp2_with fail
 refine HSG.out.mono ?_;rintro e w' ⟨rfl,rfl⟩
 go_wp2_with fail
 go_ret;exact⟨rfl,by rw[←HX.out,←HY.out,HRA.out,HRB.out];exact HB1.out.set2,A4n (A3g HY1.out)⟩
theorem D9c(w:World)(a:Option Addr)(n cap:Nat)(bs:List UInt8)(g p k:Nat)(hs:Sl A5f w a n bs)(hn:n≤1048576)(hcap:n≤cap)(hp:p≤1048576)(hb:A7w w g p k 0 0):
  Calls Tryz.prog 100 #[.slice a n cap,.pointer (some ⟨g,0,none⟩),.int .i64 5] w (A6i bs p 5 g k w):=by
 have HS:=Lib.hid hs;have HBK:=Lib.hid hb;have HV:Hid ((A5s bs ((p:Int)+1) 1).1=A2d bs p 5):=Lib.hid rfl;have HU:=Lib.hid (A2a bs ((p:Int)+1) 1)
 have hsm:=A1x bs ((p:Int)+1) 1 1 (by decide) (by decide)
 have HC:=Lib.hid (fun w' (h:Below w.heap.size w w')=>A8m w' a n cap bs ((p:Int)+1) 1 (hs.below h) hn hcap (by unfold A4x;omega) (by unfold A4x;omega));rw[HV.out]at HC HU hsm
 generalize(A5s bs ((p:Int)+1) 1).2=e2 at*;have HRA:Hid (A1s bs p 5=A2d bs p 5):=Lib.hid (by unfold A1s;simp);have HRB:Hid (A2f bs p 5=0):=Lib.hid (by unfold A2f;simp)
 obtain⟨x,hx⟩:∃x,x=A1s bs p 5:=⟨_,rfl⟩;obtain⟨y,hy⟩:∃y,y=A2f bs p 5:=⟨_,rfl⟩;have HX:=Lib.hid hx;have HY:=Lib.hid hy;rw[←hx]at HRA;rw[←hy]at HRB;clear hs hb hx hy HV
 generalize A2d bs p 5=v at*;rw[show((256^1:Nat):Int)=256 from rfl]at hsm;have hv0:=HU.out.1;go_enter Tryz.func100,Tryz.ntmps100
 go_wp2_with fail
 obtain⟨⟨c0,c1,c2,c3⟩,_,hgl⟩:=HBK.out.box;have d0:=fun w' (h:Below w.heap.size w w')=>A0f h c0
 clear c0 c1 c2 c3
 refine A0g (Below w.heap.size w) (.stir [(0,true),(1,true),(2,true),(3,true),(4,true),(5,true),(6,true),(7,false),(8,true),(9,true),(10,false),(11,true),(12,true),(13,true),(14,true),(15,true)]) (by kernel_rfl) (by kernel_rfl) (fun c a d v w h=>by cases d<;>exact h) ?_
 refine A0m (Below w.heap.size w) (fun _ h=>h) (Below.refl _ _).drew ?_
 iterate 7
  refine A0i fun K hK=>tkX ?_
  go_simp
  try go_bits
  refine hK _ ?_;clear hK K
 refine A0i (fun K hK=> ?_);simp only[A2r,List.getElem?_toArray,List.getElem?_cons_succ,List.getElem?_cons_zero];rw[if_pos (by rfl)];apply Exists.intro;refine⟨fun w' hS'=> ?_,?_⟩
 ·go_simp;exact A4y.call (Calls.mono ((A5d w' 5 (by decide))) fun e w'' h=>⟨h.1,(fun hb''=>hb''▸hS') h.2⟩)
 go_simp;refine hK _ ?_;clear hK K;rw[show A2m 5=2 from rfl]
 iterate 2
  refine A0i fun K hK=>tkX ?_
  go_simp
  try go_bits
  refine hK _ ?_;clear hK K
 refine A0i (fun K hK=> ?_);simp only[A2r,List.getElem?_toArray,List.getElem?_cons_succ,List.getElem?_cons_zero];rw[if_pos (by rfl)];apply Exists.intro;refine⟨fun w' hS'=> ?_,?_⟩
 ·go_simp;exact A4y.call (Calls.mono ((HC.out w' hS')) fun e w'' h=>⟨h.1,(fun hb''=>hb''▸hS') h.2⟩)
 go_simp;refine hK _ ?_;clear hK K
 iterate 5
  refine A0i fun K hK=>tkX ?_
  go_simp
  try go_bits
  refine hK _ ?_;clear hK K
 refine A0p (fun y1 hy=> ?_);have HY1:=Lib.hid hy;have HB1:=Lib.hid (HBK.out.below hy);clear d0 hy HC;obtain⟨⟨c0,c1,c2,c3⟩,⟨f2,f3⟩,hg1⟩:=HB1.out.box
 go_wp2_with fail
 go_ret;exact⟨rfl,by rw[←HX.out,←HY.out,HRA.out,HRB.out];exact HB1.out.set2,A4n (A3g HY1.out)⟩
theorem E0b(w:World)(a:Option Addr)(n cap:Nat)(bs:List UInt8)(g p k:Nat)(hs:Sl A5f w a n bs)(hn:n≤1048576)(hcap:n≤cap)(hp:p≤1048576)(hb:A7w w g p k 0 0):
  Calls Tryz.prog 100 #[.slice a n cap,.pointer (some ⟨g,0,none⟩),.int .i64 6] w (A6i bs p 6 g k w):=by
 have HS:=Lib.hid hs;have HBK:=Lib.hid hb;have HV:Hid ((A5s bs ((p:Int)+1) 2).1=A2d bs p 6):=Lib.hid rfl;have HU:=Lib.hid (A2a bs ((p:Int)+1) 2)
 have hsm:=A1x bs ((p:Int)+1) 2 2 (by decide) (by decide)
 have HC:=Lib.hid (fun w' (h:Below w.heap.size w w')=>A8m w' a n cap bs ((p:Int)+1) 2 (hs.below h) hn hcap (by unfold A4x;omega) (by unfold A4x;omega));rw[HV.out]at HC HU hsm
 generalize(A5s bs ((p:Int)+1) 2).2=e2 at*;have HRA:Hid (A1s bs p 6=A2d bs p 6):=Lib.hid (by unfold A1s;simp);have HRB:Hid (A2f bs p 6=0):=Lib.hid (by unfold A2f;simp)
 obtain⟨x,hx⟩:∃x,x=A1s bs p 6:=⟨_,rfl⟩;obtain⟨y,hy⟩:∃y,y=A2f bs p 6:=⟨_,rfl⟩;have HX:=Lib.hid hx;have HY:=Lib.hid hy;rw[←hx]at HRA;rw[←hy]at HRB;clear hs hb hx hy HV
 generalize A2d bs p 6=v at*;rw[show((256^2:Nat):Int)=65536 from rfl]at hsm;have hv0:=HU.out.1;go_enter Tryz.func100,Tryz.ntmps100
 go_wp2_with fail
 obtain⟨⟨c0,c1,c2,c3⟩,_,hgl⟩:=HBK.out.box;have d0:=fun w' (h:Below w.heap.size w w')=>A0f h c0
 clear c0 c1 c2 c3
 refine A0g (Below w.heap.size w) (.stir [(0,true),(1,true),(2,true),(3,true),(4,true),(5,true),(6,true),(7,false),(8,true),(9,true),(10,false),(11,true),(12,true),(13,true),(14,true),(15,true)]) (by kernel_rfl) (by kernel_rfl) (fun c a d v w h=>by cases d<;>exact h) ?_
 refine A0m (Below w.heap.size w) (fun _ h=>h) (Below.refl _ _).drew ?_
 iterate 7
  refine A0i fun K hK=>tkX ?_
  go_simp
  try go_bits
  refine hK _ ?_;clear hK K
 refine A0i (fun K hK=> ?_);simp only[A2r,List.getElem?_toArray,List.getElem?_cons_succ,List.getElem?_cons_zero];rw[if_pos (by rfl)];apply Exists.intro;refine⟨fun w' hS'=> ?_,?_⟩
 ·go_simp;exact A4y.call (Calls.mono ((A5d w' 6 (by decide))) fun e w'' h=>⟨h.1,(fun hb''=>hb''▸hS') h.2⟩)
 go_simp;refine hK _ ?_;clear hK K;rw[show A2m 6=3 from rfl]
 iterate 2
  refine A0i fun K hK=>tkX ?_
  go_simp
  try go_bits
  refine hK _ ?_;clear hK K
 refine A0i (fun K hK=> ?_);simp only[A2r,List.getElem?_toArray,List.getElem?_cons_succ,List.getElem?_cons_zero];rw[if_pos (by rfl)];apply Exists.intro;refine⟨fun w' hS'=> ?_,?_⟩
 ·go_simp;exact A4y.call (Calls.mono ((HC.out w' hS')) fun e w'' h=>⟨h.1,(fun hb''=>hb''▸hS') h.2⟩)
 go_simp;refine hK _ ?_;clear hK K
 iterate 5
  refine A0i fun K hK=>tkX ?_
  go_simp
  try go_bits
  refine hK _ ?_;clear hK K
 refine A0p (fun y1 hy=> ?_);have HY1:=Lib.hid hy;have HB1:=Lib.hid (HBK.out.below hy);clear d0 hy HC;obtain⟨⟨c0,c1,c2,c3⟩,⟨f2,f3⟩,hg1⟩:=HB1.out.box
 go_wp2_with fail
 go_ret;exact⟨rfl,by rw[←HX.out,←HY.out,HRA.out,HRB.out];exact HB1.out.set2,A4n (A3g HY1.out)⟩
theorem D8i(w:World)(a:Option Addr)(n cap:Nat)(bs:List UInt8)(g p k:Nat)(hs:Sl A5f w a n bs)(hn:n≤1048576)(hcap:n≤cap)(hp:p≤1048576)(hb:A7w w g p k 0 0):
  Calls Tryz.prog 100 #[.slice a n cap,.pointer (some ⟨g,0,none⟩),.int .i64 7] w (A6i bs p 7 g k w):=by
 have HS:=Lib.hid hs;have HBK:=Lib.hid hb;have HV:Hid ((A5s bs ((p:Int)+1) 2).1=A2d bs p 7):=Lib.hid rfl;have HU:=Lib.hid (A2a bs ((p:Int)+1) 2)
 have hsm:=A1x bs ((p:Int)+1) 2 2 (by decide) (by decide)
 have HC:=Lib.hid (fun w' (h:Below w.heap.size w w')=>A8m w' a n cap bs ((p:Int)+1) 2 (hs.below h) hn hcap (by unfold A4x;omega) (by unfold A4x;omega));rw[HV.out]at HC HU hsm
 generalize(A5s bs ((p:Int)+1) 2).2=e2 at*;have HRA:Hid (A1s bs p 7=(p:Int)+A2p (A2d bs p 7) 2):=Lib.hid (by unfold A1s;simp)
 have HRB:Hid (A2f bs p 7=0):=Lib.hid (by unfold A2f;simp);obtain⟨x,hx⟩:∃x,x=A1s bs p 7:=⟨_,rfl⟩;obtain⟨y,hy⟩:∃y,y=A2f bs p 7:=⟨_,rfl⟩;have HX:=Lib.hid hx
 have HY:=Lib.hid hy;rw[←hx]at HRA;rw[←hy]at HRB;clear hs hb hx hy HV;generalize A2d bs p 7=v at*;rw[show((256^2:Nat):Int)=65536 from rfl]at hsm;have hv0:=HU.out.1
 go_enter Tryz.func100,Tryz.ntmps100
 go_wp2_with fail
 obtain⟨⟨c0,c1,c2,c3⟩,_,hgl⟩:=HBK.out.box;have d0:=fun w' (h:Below w.heap.size w w')=>A0f h c0
 clear c0 c1 c2 c3
 refine A0g (Below w.heap.size w) (.stir [(0,true),(1,true),(2,true),(3,true),(4,true),(5,true),(6,true),(7,false),(8,true),(9,true),(10,false),(11,true),(12,true),(13,true),(14,true),(15,true)]) (by kernel_rfl) (by kernel_rfl) (fun c a d v w h=>by cases d<;>exact h) ?_
 refine A0m (Below w.heap.size w) (fun _ h=>h) (Below.refl _ _).drew ?_
 iterate 7
  refine A0i fun K hK=>tkX ?_
  go_simp
  try go_bits
  refine hK _ ?_;clear hK K
 refine A0i (fun K hK=> ?_);simp only[A2r,List.getElem?_toArray,List.getElem?_cons_succ,List.getElem?_cons_zero];rw[if_pos (by rfl)];apply Exists.intro;refine⟨fun w' hS'=> ?_,?_⟩
 ·go_simp;exact A4y.call (Calls.mono ((A5d w' 7 (by decide))) fun e w'' h=>⟨h.1,(fun hb''=>hb''▸hS') h.2⟩)
 go_simp;refine hK _ ?_;clear hK K;rw[show A2m 7=3 from rfl]
 iterate 2
  refine A0i fun K hK=>tkX ?_
  go_simp
  try go_bits
  refine hK _ ?_;clear hK K
 refine A0i (fun K hK=> ?_);simp only[A2r,List.getElem?_toArray,List.getElem?_cons_succ,List.getElem?_cons_zero];rw[if_pos (by rfl)];apply Exists.intro;refine⟨fun w' hS'=> ?_,?_⟩
 ·go_simp;exact A4y.call (Calls.mono ((HC.out w' hS')) fun e w'' h=>⟨h.1,(fun hb''=>hb''▸hS') h.2⟩)
 go_simp;refine hK _ ?_;clear hK K
 iterate 5
  refine A0i fun K hK=>tkX ?_
  go_simp
  try go_bits
  refine hK _ ?_;clear hK K
 refine A0p (fun y1 hy=> ?_);have HY1:=Lib.hid hy;have HB1:=Lib.hid (HBK.out.below hy);clear d0 hy HC;obtain⟨⟨c0,c1,c2,c3⟩,⟨f2,f3⟩,hg1⟩:=HB1.out.box
 have HSG:=Lib.hid (fun w'=>B3u w' v 2 HU.out (by unfold A4x;omega));have hs2:=B5e v
 go_wp2_with fail
 have d0:=fun w' (h:D6v y1 g p k w')=>h.1.choose_spec.box.1.1
 have HBd:=HB1.out.below (Below.refl y1.heap.size y1).drew;have hSw:D6v y1 g p k y1.drew:=⟨⟨0,HBd⟩,A3g (Below.refl _ _).drew⟩;clear c0 c1 c2 c3 f2 f3;have HBD:=Lib.hid HBd;clear HBd
 refine A0g (D6v y1 g p k) (.of [(0,true),(1,true),(2,true),(3,true),(4,true),(5,true),(6,false),(7,true),(8,true),(9,true),(10,false)] (.stir [])) (by kernel_rfl) (by kernel_rfl) (fun c a d v w h=>by cases d<;>exact h) ?_
 iterate 6
  refine A0b fun K hK=>tkF ?_
  go_simp
  try go_bits
  refine hK _ _ ?_;clear hK K
 refine A0b fun K hK=>alF ?_
 go_step;refine(HSG.out _).mono ?_;rintro e w' ⟨rfl,rfl⟩;go_simp;refine hK _ _ ?_;clear hK K
 iterate 3
  refine A0b fun K hK=>tkF ?_
  go_simp
  try go_bits
  refine hK _ _ ?_;clear hK K
 obtain⟨⟨c0,c1,c2,c3⟩,⟨f2,f3⟩,hg1⟩:=HBD.out.box;refine A0b fun K hK=>alF ?_
 go_step;have HX2:A7w (y1.setCell ⟨g,2,none⟩ (.int .i64 ((p:Int)+A2p v 2))).drew g p k ((p:Int)+A2p v 2) 0:=HB1.out.set2
 have HG2:w.grownBy (y1.setCell ⟨g,2,none⟩ (.int .i64 ((p:Int)+A2p v 2))).drew (some g):=B2w (A4n (A3g HY1.out))
 refine⟨⟨⟨_,HX2⟩,B2w (A4n (A3g (Below.refl _ _)))⟩,hK _ _ ?_⟩;clear hK K;have HXX:=Lib.hid HX2;have HGG:=Lib.hid HG2;clear HX2 HG2 c0 c1 c2 c3 f2 f3 d0 hSw
 refine A0m (fun z=>z=(y1.setCell ⟨g,2,none⟩ (.int .i64 ((p:Int)+A2p v 2))).drew) (fun z hz=>by subst hz;exact⟨⟨_,HXX.out⟩,B2w (A4n (A3g (Below.refl _ _)))⟩) rfl ?_
 refine A0p (fun y2 hy=> ?_);subst hy
 go_wp2_with fail
 go_ret;exact⟨rfl,by rw[←HX.out,←HY.out,HRA.out,HRB.out];exact HXX.out,HGG.out⟩
theorem D8z(w:World)(a:Option Addr)(n cap:Nat)(bs:List UInt8)(g p k:Nat)(hs:Sl A5f w a n bs)(hn:n≤1048576)(hcap:n≤cap)(hp:p≤1048576)(hb:A7w w g p k 0 0):
  Calls Tryz.prog 100 #[.slice a n cap,.pointer (some ⟨g,0,none⟩),.int .i64 8] w (A6i bs p 8 g k w):=by
 have HS:=Lib.hid hs;have HBK:=Lib.hid hb;have HV:Hid ((A5s bs ((p:Int)+1) 2).1=A2d bs p 8):=Lib.hid rfl;have HU:=Lib.hid (A2a bs ((p:Int)+1) 2)
 have hsm:=A1x bs ((p:Int)+1) 2 2 (by decide) (by decide)
 have HC:=Lib.hid (fun w' (h:Below w.heap.size w w')=>A8m w' a n cap bs ((p:Int)+1) 2 (hs.below h) hn hcap (by unfold A4x;omega) (by unfold A4x;omega));rw[HV.out]at HC HU hsm
 generalize(A5s bs ((p:Int)+1) 2).2=e2 at*;have HRA:Hid (A1s bs p 8=A2d bs p 8/256):=Lib.hid (by unfold A1s;simp)
 have HRB:Hid (A2f bs p 8=A2p (A2d bs p 8) 1):=Lib.hid (by unfold A2f;simp);obtain⟨x,hx⟩:∃x,x=A1s bs p 8:=⟨_,rfl⟩;obtain⟨y,hy⟩:∃y,y=A2f bs p 8:=⟨_,rfl⟩;have HX:=Lib.hid hx
 have HY:=Lib.hid hy;rw[←hx]at HRA;rw[←hy]at HRB;clear hs hb hx hy HV;generalize A2d bs p 8=v at*;rw[show((256^2:Nat):Int)=65536 from rfl]at hsm;have hv0:=HU.out.1
 go_enter Tryz.func100,Tryz.ntmps100
 go_wp2_with fail
 obtain⟨⟨c0,c1,c2,c3⟩,_,hgl⟩:=HBK.out.box;have d0:=fun w' (h:Below w.heap.size w w')=>A0f h c0
 clear c0 c1 c2 c3
 refine A0g (Below w.heap.size w) (.stir [(0,true),(1,true),(2,true),(3,true),(4,true),(5,true),(6,true),(7,false),(8,true),(9,true),(10,false),(11,true),(12,true),(13,true),(14,true),(15,true)]) (by kernel_rfl) (by kernel_rfl) (fun c a d v w h=>by cases d<;>exact h) ?_
 refine A0m (Below w.heap.size w) (fun _ h=>h) (Below.refl _ _).drew ?_
 iterate 7
  refine A0i fun K hK=>tkX ?_
  go_simp
  try go_bits
  refine hK _ ?_;clear hK K
 refine A0i (fun K hK=> ?_);simp only[A2r,List.getElem?_toArray,List.getElem?_cons_succ,List.getElem?_cons_zero];rw[if_pos (by rfl)];apply Exists.intro;refine⟨fun w' hS'=> ?_,?_⟩
 ·go_simp;exact A4y.call (Calls.mono ((A5d w' 8 (by decide))) fun e w'' h=>⟨h.1,(fun hb''=>hb''▸hS') h.2⟩)
 go_simp;refine hK _ ?_;clear hK K;rw[show A2m 8=3 from rfl]
 iterate 2
  refine A0i fun K hK=>tkX ?_
  go_simp
  try go_bits
  refine hK _ ?_;clear hK K
 refine A0i (fun K hK=> ?_);simp only[A2r,List.getElem?_toArray,List.getElem?_cons_succ,List.getElem?_cons_zero];rw[if_pos (by rfl)];apply Exists.intro;refine⟨fun w' hS'=> ?_,?_⟩
 ·go_simp;exact A4y.call (Calls.mono ((HC.out w' hS')) fun e w'' h=>⟨h.1,(fun hb''=>hb''▸hS') h.2⟩)
 go_simp;refine hK _ ?_;clear hK K
 iterate 5
  refine A0i fun K hK=>tkX ?_
  go_simp
  try go_bits
  refine hK _ ?_;clear hK K
 refine A0p (fun y1 hy=> ?_);have HY1:=Lib.hid hy;have HB1:=Lib.hid (HBK.out.below hy);clear d0 hy HC;obtain⟨⟨c0,c1,c2,c3⟩,⟨f2,f3⟩,hg1⟩:=HB1.out.box
 have HSG:=Lib.hid (B3u y1 v 1 HU.out (by unfold A4x;omega))
 go_wp2_with fail
 refine HSG.out.mono ?_;rintro e w' ⟨rfl,rfl⟩
 go_wp2_with fail
 go_ret;exact⟨rfl,by rw[←HX.out,←HY.out,HRA.out,HRB.out];exact HB1.out.set2.set3,A4n (A4n (A3g HY1.out))⟩
theorem D9t(w:World)(a:Option Addr)(n cap:Nat)(bs:List UInt8)(g p k:Nat)(hs:Sl A5f w a n bs)(hn:n≤1048576)(hcap:n≤cap)(hp:p≤1048576)(hb:A7w w g p k 0 0):
  Calls Tryz.prog 100 #[.slice a n cap,.pointer (some ⟨g,0,none⟩),.int .i64 9] w (A6i bs p 9 g k w):=by
 have HS:=Lib.hid hs;have HBK:=Lib.hid hb;have HV:Hid ((A5s bs ((p:Int)+1) 1).1=A2d bs p 9):=Lib.hid rfl;have HU:=Lib.hid (A2a bs ((p:Int)+1) 1)
 have hsm:=A1x bs ((p:Int)+1) 1 1 (by decide) (by decide)
 have HC:=Lib.hid (fun w' (h:Below w.heap.size w w')=>A8m w' a n cap bs ((p:Int)+1) 1 (hs.below h) hn hcap (by unfold A4x;omega) (by unfold A4x;omega));rw[HV.out]at HC HU hsm
 generalize(A5s bs ((p:Int)+1) 1).2=e2 at*;have HRA:Hid (A1s bs p 9=A2d bs p 9):=Lib.hid (by unfold A1s;simp);have HRB:Hid (A2f bs p 9=0):=Lib.hid (by unfold A2f;simp)
 obtain⟨x,hx⟩:∃x,x=A1s bs p 9:=⟨_,rfl⟩;obtain⟨y,hy⟩:∃y,y=A2f bs p 9:=⟨_,rfl⟩;have HX:=Lib.hid hx;have HY:=Lib.hid hy;rw[←hx]at HRA;rw[←hy]at HRB;clear hs hb hx hy HV
 generalize A2d bs p 9=v at*;rw[show((256^1:Nat):Int)=256 from rfl]at hsm;have hv0:=HU.out.1;go_enter Tryz.func100,Tryz.ntmps100
 go_wp2_with fail
 obtain⟨⟨c0,c1,c2,c3⟩,_,hgl⟩:=HBK.out.box;have d0:=fun w' (h:Below w.heap.size w w')=>A0f h c0
 clear c0 c1 c2 c3
 refine A0g (Below w.heap.size w) (.stir [(0,true),(1,true),(2,true),(3,true),(4,true),(5,true),(6,true),(7,false),(8,true),(9,true),(10,false),(11,true),(12,true),(13,true),(14,true),(15,true)]) (by kernel_rfl) (by kernel_rfl) (fun c a d v w h=>by cases d<;>exact h) ?_
 refine A0m (Below w.heap.size w) (fun _ h=>h) (Below.refl _ _).drew ?_
 iterate 7
  refine A0i fun K hK=>tkX ?_
  go_simp
  try go_bits
  refine hK _ ?_;clear hK K
 refine A0i (fun K hK=> ?_);simp only[A2r,List.getElem?_toArray,List.getElem?_cons_succ,List.getElem?_cons_zero];rw[if_pos (by rfl)];apply Exists.intro;refine⟨fun w' hS'=> ?_,?_⟩
 ·go_simp;exact A4y.call (Calls.mono ((A5d w' 9 (by decide))) fun e w'' h=>⟨h.1,(fun hb''=>hb''▸hS') h.2⟩)
 go_simp;refine hK _ ?_;clear hK K;rw[show A2m 9=2 from rfl]
 iterate 2
  refine A0i fun K hK=>tkX ?_
  go_simp
  try go_bits
  refine hK _ ?_;clear hK K
 refine A0i (fun K hK=> ?_);simp only[A2r,List.getElem?_toArray,List.getElem?_cons_succ,List.getElem?_cons_zero];rw[if_pos (by rfl)];apply Exists.intro;refine⟨fun w' hS'=> ?_,?_⟩
 ·go_simp;exact A4y.call (Calls.mono ((HC.out w' hS')) fun e w'' h=>⟨h.1,(fun hb''=>hb''▸hS') h.2⟩)
 go_simp;refine hK _ ?_;clear hK K
 iterate 5
  refine A0i fun K hK=>tkX ?_
  go_simp
  try go_bits
  refine hK _ ?_;clear hK K
 refine A0p (fun y1 hy=> ?_);have HY1:=Lib.hid hy;have HB1:=Lib.hid (HBK.out.below hy);clear d0 hy HC;obtain⟨⟨c0,c1,c2,c3⟩,⟨f2,f3⟩,hg1⟩:=HB1.out.box
 have HBD:Hid (A2b bs p 9=(!(A1s bs p 9==8)&& !(A1s bs p 9==10))):=Lib.hid rfl;rw[←HX.out,HRA.out]at HBD
 have HFIN:=Lib.hid (show ∀r:Int,r=(if A2b bs p 9=true then 8 else 0)→A6i bs p 9 g k w (.returned (.int .i64 r)) (y1.setCell ⟨g,2,none⟩ (.int .i64 v))from fun r hr=>
  ⟨by rw[hr],by rw[←HX.out,←HY.out,HRA.out,HRB.out];exact HB1.out.set2,A4n (A3g HY1.out)⟩)
 by_cases h8:v=8
 ·have e8:(v !=8)=false:=by simp[h8]
  have HR:=Lib.hid (show A2b bs p 9=false by rw[HBD.out];simp[h8]);rw[HR.out]at HFIN;clear h8 HBD
  go_wp2_with fail
  go_ret;exact HFIN.out 0 rfl
 ·have e8:(v !=8)=true:=by simp[h8]
  by_cases h10:v=10
  ·have e10:(v !=10)=false:=by simp[h10]
   have HR:=Lib.hid (show A2b bs p 9=false by rw[HBD.out];simp[h10]);rw[HR.out]at HFIN;clear h8 h10 HBD
   go_wp2_with fail
   go_ret;exact HFIN.out 0 rfl
  ·have e10:(v !=10)=true:=by simp[h10]
   have HR:=Lib.hid (show A2b bs p 9=true by rw[HBD.out];simp[h8,h10]);rw[HR.out]at HFIN;clear h8 h10 HBD
   go_wp2_with fail
   go_ret;exact HFIN.out 8 rfl
theorem D3a(w:World)(a:Option Addr)(n cap:Nat)(bs:List UInt8)(g p k f:Nat)(hs:Sl A5f w a n bs)(hn:n≤1048576)(hcap:n≤cap)(hp:p≤1048576)(hb:A7w w g p k 0 0)(h1:f≠0)(h9:f≤9):
  Calls Tryz.prog 100 #[.slice a n cap,.pointer (some ⟨g,0,none⟩),.int .i64 (f:Nat)] w (A6i bs p f g k w):=by
 have h:f=1∨f=2∨f=3∨f=4∨f=5∨f=6∨f=7∨f=8∨f=9:=by omega
 rcases h with rfl|rfl|rfl|rfl|rfl|rfl|rfl|rfl|rfl
 ·exact E0p w a n cap bs g p k hs hn hcap hp hb
 ·exact D9d w a n cap bs g p k hs hn hcap hp hb
 ·exact D8p w a n cap bs g p k hs hn hcap hp hb
 ·exact D9n w a n cap bs g p k hs hn hcap hp hb
 ·exact D9c w a n cap bs g p k hs hn hcap hp hb
 ·exact E0b w a n cap bs g p k hs hn hcap hp hb
 ·exact D8i w a n cap bs g p k hs hn hcap hp hb
 ·exact D8z w a n cap bs g p k hs hn hcap hp hb
 ·exact D9t w a n cap bs g p k hs hn hcap hp hb
theorem C2j(bs:List UInt8)(p:Nat):A3u bs p<256:=(bs.getD p 0).toNat_lt
theorem A9s{f:Nat}(h0:f≠0)(h9:f≤9):1≤A2m f:=by
 match f,h0,h9 with
 |1,_,_|2,_,_|3,_,_|4,_,_|5,_,_|6,_,_|7,_,_|8,_,_|9,_,_=>decide
 |n+10,_,h=>omega
theorem B0v(bs:List UInt8)(p f:Nat):0≤A2d bs p f∧A2d bs p f<65536:=by
 have h1:=A2a bs ((p:Int)+1) ((max (A2m f-1) 1:Nat):Int);have h2:=A1x bs ((p:Int)+1) ((max (A2m f-1) 1:Nat):Int) 2 (by have:=B1r f;omega) (by decide);unfold A2d
 refine⟨h1.1,?_⟩;rw[show((256^2:Nat):Int)=65536 from rfl]at h2;exact h2
theorem C1z(bs:List UInt8)(p f:Nat): -32768≤A1s bs p f∧A1s bs p f≤(p:Int)+65536:=by
 have h:=B0v bs p f;unfold A1s;generalize A2d bs p f=v at*;have h1:=B2s v;have h2:=B5e v;simp only;split
 ·omega
 split
 ·omega
 split
 ·omega
 split
 ·omega
 split
 ·omega
 ·omega
theorem A1i{n:Int}(h: -9223372036854775808≤n∧n≤9223372036854775807):A3m n:=by
 unfold A3m Lit.wf;simp only[Bool.and_eq_true,decide_eq_true_eq];exact h
theorem B7h(bs:List UInt8)(p:Nat)(hp:p≤1048576):A3m (A7q bs p).pos∧A3m (A7q bs p).a∧(A7q bs p).op<256:=by
 have h:=C1z bs p (A0q (A3u bs p));exact⟨A1i (by unfold A7q;simp only;omega),A1i (by unfold A7q;simp only;omega),C2j bs p⟩
theorem B3w(bs:List UInt8)(fuel p:Nat)(acc:List RW)(h:bs.length≤p):A9b bs fuel p acc=(0,acc):=by
 cases fuel
 ·rfl
 ·unfold A9b;rw[if_pos h]
theorem B2a(bs:List UInt8)(fuel p:Nat)(acc:List RW)(h:p<bs.length)(h0:A0q (A3u bs p)=0):A9b bs (fuel+1) p acc=(8,[]):=by
 rw[A9b,if_neg (by omega),if_pos h0]
theorem A9w(bs:List UInt8)(fuel p:Nat)(acc:List RW)(h:p<bs.length)(h0:A0q (A3u bs p)≠0)(h1:bs.length-p<A2m (A0q (A3u bs p))):A9b bs (fuel+1) p acc=(6,[]):=by
 rw[A9b,if_neg (by omega),if_neg h0,if_pos h1]
theorem B3y(bs:List UInt8)(fuel p:Nat)(acc:List RW)(h:p<bs.length)(h0:A0q (A3u bs p)≠0)(h1:¬bs.length-p<A2m (A0q (A3u bs p)))(h2:A2b bs p (A0q (A3u bs p))=true):A9b bs (fuel+1) p acc=(8,[]):=by
 rw[A9b,if_neg (by omega),if_neg h0,if_neg h1,if_pos h2]
theorem B1q(bs:List UInt8)(fuel p:Nat)(acc:List RW)(h:p<bs.length)(h0:A0q (A3u bs p)≠0)(h1:¬bs.length-p<A2m (A0q (A3u bs p)))(h2:A2b bs p (A0q (A3u bs p))=false):
  A9b bs (fuel+1) p acc=A9b bs fuel (p+A2m (A0q (A3u bs p))) (acc++[A7q bs p]):=by
 rw[A9b,if_neg (by omega),if_neg h0,if_neg h1,if_neg (by rw[h2];decide)]
theorem B4j{bs:List UInt8}(h:4096<bs.length):A1g bs=(9,[]):=by unfold A1g;rw[if_pos h]
theorem A3c{bs:List UInt8}{e:Int}(h:¬4096<bs.length)(hd:A9b bs (bs.length+1) 0 []=(e,[]))(he:e≠0):A1g bs=(e,[]):=by
 unfold A1g;rw[if_neg h,hd,if_pos he]
theorem B3f{bs:List UInt8}{l:List RW}(h:¬4096<bs.length)(hd:A9b bs (bs.length+1) 0 []=(0,l))(hg:A7y l=false):A1g bs=(2,[]):=by
 unfold A1g;rw[if_neg h,hd,if_neg (by simp),if_neg (by simp[hg])]
theorem B9z{bs:List UInt8}{l:List RW}(h:¬4096<bs.length)(hd:A9b bs (bs.length+1) 0 []=(0,l))(hg:A7y l=true):A1g bs=(0,l):=by
 unfold A1g;rw[if_neg h,hd,if_neg (by simp),if_pos hg]
theorem stR:StE 112 118 (.agg #[.int .i64 0,.int .u8 0,.int .i64 0,.int .i64 0]) 4 32:=⟨Tryz.underlying112,by kernel_rfl,rfl⟩
theorem C1d{w:World}{B:Nat}{e:TypeId}{size:Nat}{v:Value}{n:Nat}{xs:List Value}(h:w.ownsRow B e size v n xs):some w.heap.size≠v.ownBlock:=by
 intro he;have:=(h.lt _ he.symm).2;omega
theorem B9j{w w':World}{B:Nat}{e t:TypeId}{size:Nat}{v:Value}{n g:Nat}{xs:List Value}{o:Obj}{cs:Array Value}{fr:Nat×Nat}(ho:w.ownsRow B e size v n xs)(hg:(w.alloc o).grownBy w' v.ownBlock)(hx:w.heap[g]? =some (.cells cs t fr))(hne:e≠t):w'.heap[g]? =some (.cells cs t fr):=by
 have hlt:=(Array.getElem?_eq_some_iff.1 hx).1;rw[hg.block g (by simp;omega) ?_,Below.heap_alloc _ _ _ hlt]
 ·exact hx
 ·intro he
  rcases ho.2 with⟨rfl,_⟩|⟨g2,cap,cur,rfl,_,hg2,_⟩
  ·simp[Value.ownBlock]at he
  ·simp[Value.ownBlock]at he;subst he;rw[hg2]at hx;simp at hx;exact hne hx.2.1
theorem C8b{w w':World}{o:Obj}{row:Option Nat}{g:Nat}(hg:(w.alloc o).grownBy w' row)(h:g<w.heap.size):g<w'.heap.size:=by
 have h1:=hg.size;simp at h1;omega
def A2e(R:Int×List RW)(w:World)(e:Ending)(w':World):Prop:=
 ∃v m,e= .returned (.tuple #[v,.int .i64 R.1])∧w'.ownsRow w.heap.size 118 4 v m (R.2.flatMap RW.cells)∧(∀r∈R.2,A3m r.pos∧A3m r.a∧r.op<256)∧Below w.heap.size w w'
theorem A2e.err{R:Int×List RW}{w w':World}{e:Int}(h:R=(e,[]))(hb:Below w.heap.size w w'):A2e R w (.returned (.tuple #[.slice none 0 0,.int .i64 e])) w':=by
 subst h
 exact⟨_,0,rfl,World.ownsRow_nil _ _ _ _,(fun r hr=>by cases hr),hb⟩
theorem C3d(w:World)(a:Option Addr)(n cap:Nat)(bs:List UInt8)(hs:Sl A5f w a n bs)(hn:n≤65536)(hcap:n≤cap):Calls Tryz.prog 53 #[.slice a n cap] w (A2e (A1g bs) w):=by
 have HS:=Lib.hid hs;have HLn:=Lib.hid hs.1;obtain⟨R,hR⟩:∃R,R=A1g bs:=⟨_,rfl⟩;rw[←hR];have HR:=Lib.hid hR;clear hs hR;by_cases h4:4096<n
 ·have HQ:=Lib.hid (show R=(9,[]) by rw[HR.out];exact B4j (by rw[HLn.out];exact h4));have e1:decide ((4096:Int)<n)=true:=by simp;omega
  go_enter Tryz.func53,Tryz.ntmps53
  go_wp2_with fail
  go_ret2;exact A2e.err HQ.out (Below.refl _ _)
 have e1:decide ((4096:Int)<n)=false:=by simp;omega
 have H4:=Lib.hid (show ¬4096<bs.length by rw[HLn.out];exact h4);have hz:=D6q;go_enter Tryz.func53,Tryz.ntmps53
 go_wp2_with fail
 refine(B4x _).mono ?_;rintro e w1 ⟨rfl,hb1⟩;have HB1:=Lib.hid hb1;clear hb1
 go_wp2_with (first
  |(refine A8x rfl _ _ _ rfl _ rfl rfl _ _ (by rw[A3s];exact B1a) (by simp[A3s,zs8]) (B7m _) ?_))
 clear hz;have HT1:=Lib.hid (heap_alloc_last w1 (.cells (A8g A0q) 164));have HB2:=Lib.hid (HB1.out.alloc HB1.out.size (.cells (A8g A0q) 164))
 have hg1:w1.heap.size<(w1.alloc (.cells (A8g A0q) 164)).heap.size:=by simp
 generalize w1.alloc (.cells (A8g A0q) 164)=w2 at*;generalize hgt:w1.heap.size=gt at*;clear hgt HB1
 go_loopg [5,6] n (fun gn v i wr=>∃p fuel m:Nat,∃acc,p≤n∧gn=n-p∧i= .int .i64 p∧n<fuel+p∧m≤p∧Hid (wr.ownsRow w.heap.size 118 4 v m (acc.flatMap RW.cells))∧Hid (∀r∈acc,A3m r.pos∧A3m r.a∧r.op<256)∧
  Hid (wr.heap[gt]? =some (.cells (A8g A0q) 164))∧Hid (Below w.heap.size w wr)∧Hid (A9b bs (bs.length+1) 0 []=A9b bs fuel p acc)∧gt<wr.heap.size)
 case atStart=>exact⟨0,n+1,0,[],by omega,by omega,by go_num,by omega,by omega,Lib.hid (World.ownsRow_nil _ _ _ _),Lib.hid (fun r hr=>by cases hr),HT1,HB2,Lib.hid (by rw[HLn.out]),hg1⟩
 case round=>
  obtain⟨p,fuel,m,acc,hp,rfl,rfl,hf,hm,HO,HW,HT,HB,HD,hgl⟩:=hrel;by_cases hlt:p<n
  ·obtain⟨fuel,rfl⟩:∃f,fuel=f+1:=⟨fuel-1,by omega⟩;obtain⟨b,off,rfl,hbl,hc⟩:=(HS.out.below HB.out).2 (by omega);have hpl:p<bs.length:=by rw[HLn.out];exact hlt
   have q0:=hc p hpl;have hop:bs[p].toNat=A3u bs p:=by unfold A3u;simp[List.getD,hpl]
   unfold A5f at q0;rw[hop]at q0;have hol:=C2j bs p;have hf9:=A4j (A3u bs p)
   have HRD:=Lib.hid (fun(w':World) (hb:Below w.heap.size w w') (g:Nat) (hk:A7w w' g p (A3u bs p) 0 0) (h0:A0q (A3u bs p)≠0)=>D3a w' (some ⟨b,off,none⟩) n cap bs g p (A3u bs p) (A0q (A3u bs p)) (HS.out.below hb) (by omega) hcap (by omega) hk h0 hf9)
   have HSZ:=Lib.hid (fun(w':World)=>A5d w' (A0q (A3u bs p)) hf9);have HNO:=Lib.hid (B2a bs fuel p acc hpl);have HSH:=Lib.hid (A9w bs fuel p acc hpl)
   have HBA:=Lib.hid (B3y bs fuel p acc hpl);have HNX:=Lib.hid (B1q bs fuel p acc hpl)
   have HRW:Hid (A7q bs p=⟨p,A3u bs p,A1s bs p (A0q (A3u bs p)),A2f bs p (A0q (A3u bs p))⟩):=Lib.hid rfl;have HWF:=Lib.hid (B7h bs p (by omega))
   have hsp:=fun h0=>A9s (f:=A0q (A3u bs p)) h0 hf9
   have hs3:=B1r (A0q (A3u bs p));have tc:wr.cell? ⟨gt,A3u bs p,none⟩=some (.int .u8 (A0q (A3u bs p):Nat)):=by rw[cell_of_row wr _ _ _ _ _ HT.out];exact B0u _ _ hol
   have p1:(p:Int)<n:=by omega
   have o1:(A3u bs p:Int)<256:=by omega
   rw[HLn.out]at HSH HBA HNX;clear hc hop hpl;unfold A6i at HRD;generalize A2b bs p (A0q (A3u bs p))=bad at*;generalize A1s bs p (A0q (A3u bs p))=ra at*
   generalize A2f bs p (A0q (A3u bs p))=rb at*;generalize A0q (A3u bs p)=f at*;generalize A2m f=s at*;generalize A3u bs p=o at*;by_cases h0:f=0
   ·subst h0;have HQ:=Lib.hid (show R=(8,[]) by rw[HR.out];exact A3c H4.out (by rw[HD.out];exact HNO.out rfl) (by decide));clear HNO HSH HBA HNX HRD HSZ
    go_wp2_with fail
    go_ret2;exact A2e.err HQ.out (HB.out.alloc HB.out.size _)
   have hs1:=hsp h0;have e0:((f:Int)==0)=false:=by simp;omega
   clear hsp;by_cases h1:n-p<s
   ·have HQ:=Lib.hid (show R=(6,[]) by rw[HR.out];exact A3c H4.out (by rw[HD.out];exact HSH.out h0 h1) (by decide));have e2:decide ((n:Int) -p<s)=true:=by simp;omega
    clear HNO HSH HBA HNX HRD h0
    go_wp2_with fail
    refine(HSZ.out _).mono ?_;rintro e w' ⟨rfl,rfl⟩
    go_wp2_with fail
    go_ret2;exact A2e.err HQ.out (HB.out.alloc HB.out.size _)
   have e2:decide ((n:Int) -p<s)=false:=by simp;omega
   have H0:=Lib.hid h0;have H1:=Lib.hid h1;have hsn:p+s≤n:=by omega
   clear h0 h1
   go_wp2_with fail
   refine(HSZ.out _).mono ?_;rintro e w' ⟨rfl,rfl⟩
   go_wp2_with fail
   have hal:Below w.heap.size w (wr.alloc (.cells #[.int .i64 p,.int .u8 (o:Nat),.int .i64 0,.int .i64 0] 118)):=HB.out.alloc HB.out.size _
   refine(HRD.out _ hal wr.heap.size (heap_alloc_last wr _) H0.out).mono ?_;rintro e w3 ⟨rfl,hk3,hg3⟩
   have HWW:=Lib.hid (((Below.refl wr.heap.size wr).alloc (Nat.le_refl _) (.cells #[.int .i64 p,.int .u8 (o:Nat),.int .i64 0,.int .i64 0] 118)).grown hg3 (by simp) (fun k hk=>by cases hk;exact Nat.le_refl _))
   have HB3:=Lib.hid (HB.out.trans (HWW.out.mono HB.out.size));have HK3:=Lib.hid hk3;clear hk3 hg3 hal;obtain⟨⟨c0,c1,c2,c3⟩,_,hgw⟩:=HK3.out.box
   cases bad
   ·simp only[Bool.false_eq_true,if_false];have HO3:=Lib.hid (A1n HO.out HWW.out);have HT3:=Lib.hid (show w3.heap[gt]? =some (.cells (A8g A0q) 164) by rw[HWW.out.block gt hgl];exact HT.out)
    have hg3':gt<w3.heap.size:=(Array.getElem?_eq_some_iff.1 HT3.out).1;have HDN:=Lib.hid (HD.out.trans (HNX.out H0.out H1.out rfl));rw[HRW.out]at HDN HWF
    go_wp2_with (at_builtin;first
     |(refine A0r stR rfl _ _ rfl w.heap.size _ _ _ rfl HO3.out _ 1 _ _ rfl rfl rfl rfl (by omega) (by unfold maxLen;omega) HB3.out.size ?_;intro v4 w4 hown4 hg4 hb4;have HO4:=Lib.hid hown4;have HB4:=Lib.hid (HB3.out.trans hb4);have HT4:=Lib.hid (B9j HO3.out hg4 HT3.out (by decide));have hg4':=C8b hg4 hg3';clear hown4 hg4 hb4))
    refine(HSZ.out _).mono ?_;rintro e w' ⟨rfl,rfl⟩
    go_wp2_with fail
    go_roundg (n-(p+s))
    case measure=>omega
    case rel=>exact⟨p+s,fuel,m+1,acc++[⟨p,o,ra,rb⟩],by omega,rfl,by go_num,by omega,by omega,Lib.hid (by rw[List.flatMap_append];exact HO4.out),Lib.hid (fun r hr=>by
     rcases List.mem_append.1 hr with h|h
     ·exact HW.out r h
     ·rw[List.mem_singleton.1 h];exact HWF.out),HT4,HB4,HDN,hg4'⟩
   ·simp only[if_true];have HQ:=Lib.hid (show R=(8,[]) by rw[HR.out];exact A3c H4.out (by rw[HD.out];exact HBA.out H0.out H1.out rfl) (by decide));clear HNO HSH HBA HNX HRD HSZ
    go_wp2_with fail
    go_ret2;exact A2e.err HQ.out HB3.out
  ·obtain rfl:p=n:=by omega
   have HDE:=Lib.hid (HD.out.trans (B3w bs fuel p acc (by rw[HLn.out];exact Nat.le_refl _)));obtain⟨va,vc,rfl,hss,hcc⟩:=Ss.ofOwn RW.cells_length (by decide) HO.out
   have HG:=Lib.hid (fun w' (hb:Below wr.heap.size wr w')=>C4h w' va m vc acc (Rs.below hss hb) (by omega) HW.out);clear hss
   go_wp2_with (first
    |(refine wpList_load_row rfl _ _ rfl _ rfl _ _ _ _ HT.out Tryz.underlying164 rfl (by rw[A3s];exact B1a) ?_))
   refine(HG.out _ (Below.refl _ _)).mono ?_;rintro e w3 ⟨rfl,hb3⟩;have HB3:=Lib.hid (HB.out.trans (hb3.mono HB.out.size));have HO3:=Lib.hid (A1n HO.out hb3);clear hb3
   cases hg:A7y acc
   ·have HQ:=Lib.hid (show R=(2,[]) by rw[HR.out];exact B3f H4.out HDE.out hg);clear hg
    go_wp2_with fail
    go_ret2;exact A2e.err HQ.out HB3.out
   ·have HQ:=Lib.hid (show R=(0,acc) by rw[HR.out];exact B9z H4.out HDE.out hg);clear hg
    go_wp2_with fail
    go_ret2;exact⟨_,m,by rw[HQ.out];rfl,by rw[HQ.out];exact HO3.out,by rw[HQ.out];exact HW.out,HB3.out⟩
end
end Go.Proofs.YtclpkipaehpkdaaGreatDoor
