/- asm: own texts, merged (wip/merge3.py). No condition. -/
import Derived.Test.YtclpkipaehpkdaaGreatDoorQ00AsmLifts
import Derived.Test.YtclpkipaehpkdaaGreatDoorQ01AsmLifts
import Derived.Lib.ConvBytes
import Derived.Deep.LoopGhost
import Derived.Deep.DeepCutAuto
import Derived.Lib.DecodeN
set_option linter.unusedVariables false
set_option linter.unusedSimpArgs false
set_option maxRecDepth 100000
set_option maxHeartbeats 64000000
namespace Go.Proofs.YtclpkipaehpkdaaGreatDoor
section
def A9t(v:Nat):List UInt8:=
 if 1≤v∧v<128 then [UInt8.ofNat v]
 else if v<2048 then [UInt8.ofNat (192+v/64),UInt8.ofNat (128+v%64)]
 else [UInt8.ofNat (224+v/4096),UInt8.ofNat (128+v/64%64),UInt8.ofNat (128+v%64)]
def D4x(x:UInt16):Value:= .int .u16 (x.toNat:Int)
theorem C8u{v:Nat}(h:1≤v)(h':v<128):(A9t v).map A5f=[.int .u8 (v:Int)]:=by
 unfold A9t;rw[if_pos ⟨h,h'⟩];simp only[List.map_cons,List.map_nil];rw[B2k (by omega) (by omega)];rfl
theorem C9q{v:Nat}(h:¬(1≤v∧v<128))(h':v<2048):(A9t v).map A5f=[.int .u8 (192+(v:Int)/64),.int .u8 (128+(v:Int)%64)]:=by
 unfold A9t;rw[if_neg h,if_pos h'];simp only[List.map_cons,List.map_nil];rw[B2k (by omega) (by omega),B2k (by omega) (by omega)];rfl
theorem C2n{v:Nat}(h':¬v<2048)(h:v<65536):(A9t v).map A5f=[.int .u8 (224+(v:Int)/4096),.int .u8 (128+(v:Int)/64%64),.int .u8 (128+(v:Int)%64)]:=by
 unfold A9t;rw[if_neg (by omega),if_neg h'];simp only[List.map_cons,List.map_nil];rw[B2k (by omega) (by omega),B2k (by omega) (by omega),B2k (by omega) (by omega)];rfl
def A6k(bs:List UInt8)(i:Nat):Nat×Bool:=
 match bs[i]? with
 |some c=>if c.toNat/64=2 then(c.toNat%64,true)else(0,false)
 |none=>(0,false)
theorem B4a(bs:List UInt8)(i:Nat):(A6k bs i).1<64:=by
 unfold A6k;split
 ·split
  ·exact Nat.mod_lt _ (by decide)
  ·decide
 ·decide
def A2x(c:Nat)(x:Nat)(one:Bool)(y:Nat)(both:Bool):Nat×Nat:=
 if c≠0∧c<128 then(c,1)
 else if c/32=6∧one=true then(if c%32*64+x=0∨128≤c%32*64+x then(c%32*64+x,2)else(0,0))
 else if c/16=14∧one=true∧both=true then(if 2048≤c%16*4096+x*64+y then(c%16*4096+x*64+y,3)else(0,0))
 else(0,0)
def A7e(bs:List UInt8):Nat×Nat:=A2x ((bs[0]?).getD 0).toNat (A6k bs 1).1 (A6k bs 1).2 (A6k bs 2).1 (A6k bs 2).2
theorem B5q{x y:Nat}(i:Nat)(hx:x%2^i=0)(hy:y<2^i)(h:x+y<65536):bits .or .u16 (x:Int) (y:Int)=(x:Int)+y:=by
 rw[u16_or_nat x y (by omega) (by omega),nat_join i x y hx hy]
 push_cast;rfl
def A5x:Nat→List UInt8→Option (List UInt16)
 |_,[]=>some []
 |0,_=>none
 |f+1,c::t=>if(A7e (c::t)).2=0 then none else(A5x f ((c::t).drop (A7e (c::t)).2)).map (UInt16.ofNat (A7e (c::t)).1::·)
def A3p(bs:List UInt8):Option (List UInt16):=A5x bs.length bs
theorem B0d{bs:List UInt8}{i:Nat}(h:(A6k bs i).2=true):i<bs.length:=by
 unfold A6k at h;split at h
 ·rename_i c hc
  exact(List.getElem?_eq_some_iff.1 hc).1
 ·simp at h
theorem D1r{bs:List UInt8}(h:bs≠[]):(A7e bs).2≤bs.length∧(A7e bs).1<65536:=by
 have hl:0<bs.length:=List.length_pos_iff.2 h;have hx:=B4a bs 1;have hy:=B4a bs 2;have hc:=(bs[0]?.getD 0).toNat_lt;unfold A7e A2x;split
 ·exact⟨hl,by simp only;omega⟩
 split
 ·rename_i h1
  have:=B0d h1.2;split
  ·exact⟨this,by simp only;omega⟩
  ·exact⟨by simp,by simp⟩
 split
 ·rename_i h1
  have:=B0d h1.2.2;split
  ·exact⟨this,by simp only;omega⟩
  ·exact⟨by simp,by simp⟩
 ·exact⟨by simp,by simp⟩
theorem B3b{f:Nat}{bs:List UInt8}(hf:bs.length≤f+1)(h:bs≠[]):A5x (f+1) bs=if(A7e bs).2=0 then none else(A5x f (bs.drop (A7e bs).2)).map (UInt16.ofNat (A7e bs).1::·):=by
 cases bs with
 |nil=>exact absurd rfl h
 |cons c t=>rw[A5x]
def B4n(c:Nat)(l:Nat)(x y:Nat):Int×Nat:=
 if 192≤c∧c<224∧1<l then(((c:Int) -192)*64+x-128,2)
 else if 224≤c∧c<240∧2<l then(((c:Int) -224)*4096+((x:Int) -128)*64+y-128,3)
 else(c,1)
def B6g(bs:List UInt8):Int×Nat:=B4n (bs[0]?.getD 0).toNat bs.length (bs[1]?.getD 0).toNat (bs[2]?.getD 0).toNat
theorem C6c{n:Nat}{c:UInt8}(h:n<256):UInt8.ofNat n=c↔n=c.toNat:=by
 constructor
 ·intro e;rw[←e,UInt8.toNat_ofNat_of_lt' h]
 ·intro e;rw[e];simp
theorem C4y{v:Nat}(hv:v<65536)(c:UInt8):A9t v=[c]↔1≤v∧v<128∧v=c.toNat:=by
 unfold A9t;split
 ·rename_i h;rw[List.cons.injEq,C6c (by omega)];simp;omega
 ·rename_i h;split<;>simp<;>omega
theorem C4g{v:Nat}(hv:v<65536)(c x:UInt8):A9t v=[c,x]↔¬(1≤v∧v<128)∧v<2048∧192+v/64=c.toNat∧128+v%64=x.toNat:=by
 unfold A9t;split
 ·rename_i h;simp;omega
 ·rename_i h
  split
  ·rename_i h2;rw[List.cons.injEq,List.cons.injEq,C6c (by omega),C6c (by omega)];simp;omega
  ·rename_i h2;simp;omega
theorem C4i{v:Nat}(hv:v<65536)(c x y:UInt8):A9t v=[c,x,y]↔2048≤v∧224+v/4096=c.toNat∧128+v/64%64=x.toNat∧128+v%64=y.toNat:=by
 unfold A9t;split
 ·rename_i h;simp;omega
 ·rename_i h
  split
  ·rename_i h2;simp;omega
  ·rename_i h2;rw[List.cons.injEq,List.cons.injEq,List.cons.injEq,C6c (by omega),C6c (by omega),C6c (by omega)];simp;omega
theorem B7q(bs:List UInt8)(i:Nat)(c:UInt8)(h:bs[i]? =some c):A6k bs i=if c.toNat/64=2 then(c.toNat%64,true)else(0,false):=by
 unfold A6k;rw[h]
theorem D2k(bs:List UInt8)(h:bs≠[]):
  (0≤(B6g bs).1∧(B6g bs).1≤65535∧A9t (B6g bs).1.toNat=bs.take (B6g bs).2→A7e bs=((B6g bs).1.toNat,(B6g bs).2))∧
  (¬(0≤(B6g bs).1∧(B6g bs).1≤65535∧A9t (B6g bs).1.toNat=bs.take (B6g bs).2)→(A7e bs).2=0):=by
 rcases bs with _|⟨c,t⟩
 ·exact absurd rfl h
 have hc:=c.toNat_lt;by_cases c2:192≤c.toNat∧c.toNat<224∧1<(c::t).length
 ·rcases t with _|⟨x,t⟩
  ·simp at c2
  have hx:=x.toNat_lt
  have e1:B6g (c::x::t)=(((c.toNat:Int) -192)*64+x.toNat-128,2):=by
   show B4n c.toNat (c::x::t).length x.toNat _=_;unfold B4n;rw[if_pos c2]
  have e2:A7e (c::x::t)=if x.toNat/64=2 then(if c.toNat%32*64+x.toNat%64=0∨128≤c.toNat%32*64+x.toNat%64 then(c.toNat%32*64+x.toNat%64,2)else(0,0))else(0,0):=by
   unfold A7e;rw[B7q (c::x::t) 1 x rfl];show A2x c.toNat _ _ _ _=_;by_cases h1:x.toNat/64=2
   ·rw[if_pos h1,if_pos h1];unfold A2x;rw[if_neg (by omega),if_pos ⟨by omega,rfl⟩]
   ·rw[if_neg h1,if_neg h1];unfold A2x;rw[if_neg (by omega),if_neg (by simp),if_neg (by simp)]
  rw[e1,e2];simp only[List.take_succ_cons,List.take_zero];refine⟨fun⟨p1,p2,p3⟩=> ?_,fun hP=> ?_⟩
  ·have q:=(C4g (by omega) c x).1 p3;rw[if_pos (by omega),if_pos (by omega)];simp;omega
  ·by_cases h1:x.toNat/64=2
   ·rw[if_pos h1];by_cases h2:c.toNat%32*64+x.toNat%64=0∨128≤c.toNat%32*64+x.toNat%64
    ·exact(hP ⟨by omega,by omega,(C4g (by omega) c x).2 (by omega)⟩).elim
    ·rw[if_neg h2]
   ·rw[if_neg h1]
 by_cases c3:224≤c.toNat∧c.toNat<240∧2<(c::t).length
 ·rcases t with _|⟨x,_|⟨y,t⟩⟩
  ·simp at c3
  ·simp at c3
  have hx:=x.toNat_lt;have hy:=y.toNat_lt
  have e1:B6g (c::x::y::t)=(((c.toNat:Int) -224)*4096+((x.toNat:Int) -128)*64+y.toNat-128,3):=by
   show B4n c.toNat (c::x::y::t).length x.toNat y.toNat=_;unfold B4n;rw[if_neg c2,if_pos c3]
  have e2:A7e (c::x::y::t)=if x.toNat/64=2∧y.toNat/64=2 then(if 2048≤c.toNat%16*4096+x.toNat%64*64+y.toNat%64 then(c.toNat%16*4096+x.toNat%64*64+y.toNat%64,3)else(0,0))else(0,0):=by
   unfold A7e;rw[B7q (c::x::y::t) 1 x rfl,B7q (c::x::y::t) 2 y rfl];show A2x c.toNat _ _ _ _=_;by_cases h1:x.toNat/64=2
   ·by_cases h2:y.toNat/64=2
    ·rw[if_pos h1,if_pos h2,if_pos ⟨h1,h2⟩];unfold A2x;rw[if_neg (by omega),if_neg (by omega),if_pos ⟨by omega,rfl,rfl⟩]
    ·rw[if_neg h2,if_neg (by omega:¬(x.toNat/64=2∧y.toNat/64=2))];unfold A2x;rw[if_neg (by omega),if_neg (by omega),if_neg (by simp)]
   ·rw[if_neg h1,if_neg (by omega:¬(x.toNat/64=2∧y.toNat/64=2))];unfold A2x;rw[if_neg (by omega),if_neg (by omega),if_neg (by simp)]
  rw[e1,e2];simp only[List.take_succ_cons,List.take_zero];refine⟨fun⟨p1,p2,p3⟩=> ?_,fun hP=> ?_⟩
  ·have q:=(C4i (by omega) c x y).1 p3;rw[if_pos (by omega),if_pos (by omega)];simp;omega
  ·by_cases h1:x.toNat/64=2∧y.toNat/64=2
   ·rw[if_pos h1];by_cases h2:2048≤c.toNat%16*4096+x.toNat%64*64+y.toNat%64
    ·exact(hP ⟨by omega,by omega,(C4i (by omega) c x y).2 (by omega)⟩).elim
    ·rw[if_neg h2]
   ·rw[if_neg h1]
 ·have e1:B6g (c::t)=((c.toNat:Int),1):=by
   show B4n c.toNat (c::t).length _ _=_;unfold B4n;rw[if_neg c2,if_neg c3]
  rw[e1];simp only[List.take_succ_cons,List.take_zero]
  have e2:A7e (c::t)=if c.toNat≠0∧c.toNat<128 then(c.toNat,1)else(0,0):=by
   unfold A7e;show A2x c.toNat _ _ _ _=_;by_cases h1:c.toNat≠0∧c.toNat<128
   ·unfold A2x;rw[if_pos h1,if_pos h1]
   ·rw[if_neg h1];unfold A2x;rw[if_neg h1,if_neg,if_neg]
    ·rintro⟨h2,h3,h4⟩;have:=B0d h4;exact c3 ⟨by omega,by omega,this⟩
    ·rintro⟨h2,h3⟩;have:=B0d h3;exact c2 ⟨by omega,by omega,this⟩
  rw[e2];refine⟨fun⟨p1,p2,p3⟩=> ?_,fun hP=> ?_⟩
  ·have q:=(C4y (by omega) c).1 p3;rw[if_pos (by omega)];simp
  ·by_cases h1:c.toNat≠0∧c.toNat<128
   ·exact(hP ⟨by omega,by omega,(C4y (by omega) c).2 (by omega)⟩).elim
   ·rw[if_neg h1]
end
section
open Go.ChangeShapes Go.WideShapes Go.ChangeAt Go.RowKit
theorem E0w:C9e 215 231 (.int .u16 0) 2:=⟨Tryz.underlying215,by kernel_rfl,rfl⟩
theorem C2f(w:World)(u:Nat)(h1:u<65536):
  Calls Tryz.prog 175 #[.int .u16 u] w (D4z A5f 5 w.heap.size w (A9t u)):=by
 by_cases c1:1≤u∧u<128
 ·have hU:=C8u c1.1 c1.2;have HU:=Lib.hid hU;obtain⟨c1,c2⟩:=c1;clear hU;go_enter Tryz.func175,Tryz.ntmps175
  go_wp2
  go_ret;exact⟨_,1,rfl,by rw[HU.out];exact World.ownsRow_lit w #[.int .u8 (u:Int)] 1 (Nat.le_refl _) (by decide) rfl,(Below.refl _ _).alloc (Nat.le_refl _) _⟩
 by_cases c2:u<2048
 ·have hU:=C9q c1 c2;have HU:=Lib.hid hU;clear hU;by_cases c0:u=0
  ·subst c0;go_enter Tryz.func175,Tryz.ntmps175
   go_wp2
   go_ret;exact⟨_,2,rfl,by rw[HU.out];exact World.ownsRow_lit w #[.int .u8 192,.int .u8 128] 2 (Nat.le_refl _) (by decide) rfl,(Below.refl _ _).alloc (Nat.le_refl _) _⟩
  ·have c4:¬u≤127:=by omega
   go_enter Tryz.func175,Tryz.ntmps175
   go_wp2
   go_ret
   exact⟨_,2,rfl,by rw[HU.out];exact World.ownsRow_lit w #[.int .u8 (192+(u:Int)/64),.int .u8 (128+(u:Int)%64)] 2 (Nat.le_refl _) (by decide) rfl,(Below.refl _ _).alloc (Nat.le_refl _) _⟩
 ·have hU:=C2n c2 h1;have HU:=Lib.hid hU;have c4:¬u≤127:=by omega
  clear hU;go_enter Tryz.func175,Tryz.ntmps175
  go_wp2
  go_ret
  exact⟨_,3,rfl,by rw[HU.out];exact World.ownsRow_lit w #[.int .u8 (224+(u:Int)/4096),.int .u8 (128+(u:Int)/64%64),.int .u8 (128+(u:Int)%64)] 3 (Nat.le_refl _) (by decide) rfl,(Below.refl _ _).alloc (Nat.le_refl _) _⟩
theorem C4t(w:World)(a:Option Addr)(n cap:Nat)(bs:List UInt8)(i:Nat)(hs:Sl A5f w a n bs)(hn:n≤65536)(hi:i≤65536):
  Calls Tryz.prog 186 #[.slice a n cap,.int .i64 i] w fun e w'=>e= .returned (.tuple #[.int .u16 ((A6k bs i).1:Nat),.bool (A6k bs i).2])∧w=w':=by
 have HS:=Lib.hid hs;clear hs;by_cases hin:i<n
 ·obtain⟨b,off,rfl,hbl,hc⟩:=HS.out.2 (by omega);have hil:i<bs.length:=by rw[HS.out.1];exact hin
  have hck:w.cell? ⟨b,off+i,none⟩=some (.int .u8 (bs[i].toNat:Int)):=hc i hil
  have hT:A6k bs i=if bs[i].toNat/64=2 then(bs[i].toNat%64,true)else(0,false):=by
   unfold A6k;rw[List.getElem?_eq_getElem hil]
  obtain⟨c,hcq⟩:∃c,c=bs[i].toNat:=⟨_,rfl⟩;have hc2:c<256:=by have:=bs[i].toNat_lt;omega
  rw[←hcq]at hck hT;have HT:=Lib.hid hT;clear hT hcq hc hbl;by_cases h2:c/64=2
  ·have HH:=Lib.hid h2;have h3:((c:Int)/64 !=2)=false:=by simp;omega
   clear h2;go_enter Tryz.func186,Tryz.ntmps186
   go_wp2
   go_ret2;exact⟨by rw[HT.out,if_pos HH.out];rfl,rfl⟩
  ·have HH:=Lib.hid h2;have h3:((c:Int)/64 !=2)=true:=by simp;omega
   clear h2;go_enter Tryz.func186,Tryz.ntmps186
   go_wp2
   go_ret2;exact⟨by rw[HT.out,if_neg HH.out];rfl,rfl⟩
 ·have hT:A6k bs i=(0,false):=by
   unfold A6k;rw[List.getElem?_eq_none (by rw[HS.out.1];omega)]
  have HT:=Lib.hid hT;clear hT;go_enter Tryz.func186,Tryz.ntmps186
  go_wp2
  go_ret2;exact⟨by rw[HT.out];rfl,rfl⟩
def D0m(w:World)(p:Nat×Nat)(e:Ending)(w':World):Prop:=e= .returned (.tuple #[.int .u16 (p.1:Nat),.int .i64 (p.2:Nat)])∧w=w'
theorem D2d(w:World)(a:Option Addr)(n cap:Nat)(bs:List UInt8)(hs:Sl A5f w a n bs)(hn:n≤65536)(hp:0<n):
  Calls Tryz.prog 183 #[.slice a n cap] w (D0m w (A7e bs)):=by
 have HS:=Lib.hid hs;clear hs;obtain⟨b,off,rfl,hbl,hc⟩:=HS.out.2 hp;have hil:0<bs.length:=by rw[HS.out.1];exact hp
 have hck:w.cell? ⟨b,off,none⟩=some (.int .u8 (bs[0].toNat:Int)):=hc 0 hil;have hx:=B4a bs 1;have hy:=B4a bs 2
 have hT:A7e bs=A2x bs[0].toNat (A6k bs 1).1 (A6k bs 1).2 (A6k bs 2).1 (A6k bs 2).2:=by
  unfold A7e;rw[List.getElem?_eq_getElem hil];rfl
 have t1:=fun w' hh=>C4t w' (some ⟨b,off,none⟩) n cap bs 1 hh hn (by decide)
 have t2:=fun w' hh=>C4t w' (some ⟨b,off,none⟩) n cap bs 2 hh hn (by decide)
 obtain⟨c,hcq⟩:∃c,c=bs[0].toNat:=⟨_,rfl⟩;have hc2:c<256:=by have:=bs[0].toNat_lt;omega
 rw[←hcq]at hck hT;obtain⟨x,hxq⟩:∃x,x=(A6k bs 1).1:=⟨_,rfl⟩;obtain⟨one,h1q⟩:∃x,x=(A6k bs 1).2:=⟨_,rfl⟩;obtain⟨y,hyq⟩:∃x,x=(A6k bs 2).1:=⟨_,rfl⟩
 obtain⟨both,h2q⟩:∃x,x=(A6k bs 2).2:=⟨_,rfl⟩;rw[←hxq]at hx hT t1;rw[←h1q]at hT t1;rw[←hyq]at hy hT t2;rw[←h2q]at hT t2;have T1:=Lib.hid t1;have T2:=Lib.hid t2;rw[hT]
 clear hxq h1q hyq h2q hcq hc hbl hT t1 t2;have o1:=B5q (x:=c%32*64) (y:=x) 6 (by omega) (by omega) (by omega)
 have o2:=B5q (x:=c%16*4096) (y:=x*64) 12 (by omega) (by omega) (by omega);have o3:=B5q (x:=c%16*4096+x*64) (y:=y) 6 (by omega) (by omega) (by omega)
 push_cast at o1 o2 o3
 have a1:=u8_and15 (x:=(c:Int)) (by omega) (by omega);go_enter Tryz.func183,Tryz.ntmps183
 go_wp2_with fail
 refine(T1.out _ HS.out).mono ?_;rintro e w1 ⟨rfl,rfl⟩
 go_wp2_with fail
 refine(T2.out _ HS.out).mono ?_;rintro e w1 ⟨rfl,rfl⟩;clear T1 T2;by_cases c1:c≠0∧c<128
 ·have HR:=Lib.hid (show A2x c x one y both=(c,1) by unfold A2x;rw[if_pos c1]);obtain⟨c1,c2⟩:=c1;have c3:((c:Int) !=0)=true:=by simp;omega
  clear c1
  go_wp2
  go_ret2;exact⟨by rw[HR.out];rfl,rfl⟩
 have HN:=Lib.hid c1;by_cases c0:c=0
 ·subst c0;have HR:=Lib.hid (show A2x 0 x one y both=(0,0) by unfold A2x;simp);clear c1
  go_wp2
  go_ret2;exact⟨by rw[HR.out];rfl,rfl⟩
 have c2:128≤c:=by omega
 have c3:((c:Int) !=0)=true:=by simp;omega
 clear c1 c0;by_cases c6:c/32=6
 ·have h6:((c:Int)/32==6)=true:=by simp;omega
  have h14:((c:Int)/16==14)=false:=by simp;omega
  have H6:=Lib.hid c6;have H14:=Lib.hid (show ¬c/16=14 by omega);clear c6
  cases one
  ·have HR:=Lib.hid (show A2x c x false y both=(0,0) by unfold A2x;rw[if_neg HN.out,if_neg (by simp),if_neg (by simp)])
   go_wp2
   go_ret2;exact⟨by rw[HR.out];rfl,rfl⟩
  ·by_cases u0:c%32*64+x=0
   ·have HR:=Lib.hid (show A2x c x true y both=(c%32*64+x,2) by unfold A2x;rw[if_neg HN.out,if_pos ⟨H6.out,rfl⟩,if_pos (.inl u0)])
    have u1:(((c:Int)%32*64+x==0))=true:=by simp;omega
    clear u0
    go_wp2
    go_ret2;exact⟨by rw[HR.out];rfl,rfl⟩
   ·have u1:(((c:Int)%32*64+x==0))=false:=by simp;omega
    have HU:=Lib.hid u0;clear u0;by_cases u2:128≤c%32*64+x
    ·have HR:=Lib.hid (show A2x c x true y both=(c%32*64+x,2) by unfold A2x;rw[if_neg HN.out,if_pos ⟨H6.out,rfl⟩,if_pos (.inr u2)])
     go_wp2
     go_ret2;exact⟨by rw[HR.out];rfl,rfl⟩
    ·have HR:=Lib.hid (show A2x c x true y both=(0,0) by unfold A2x;rw[if_neg HN.out,if_pos ⟨H6.out,rfl⟩,if_neg (by have:=HU.out;omega)])
     go_wp2
     go_ret2;exact⟨by rw[HR.out];rfl,rfl⟩
 ·have h6:((c:Int)/32==6)=false:=by simp;omega
  have H6:=Lib.hid c6;clear c6;by_cases c14:c/16=14
  ·have h14:((c:Int)/16==14)=true:=by simp;omega
   have H14:=Lib.hid c14;clear c14
   cases one
   ·have HR:=Lib.hid (show A2x c x false y both=(0,0) by unfold A2x;rw[if_neg HN.out,if_neg (by simp),if_neg (by simp)])
    go_wp2
    go_ret2;exact⟨by rw[HR.out];rfl,rfl⟩
   cases both
   ·have HR:=Lib.hid (show A2x c x true y false=(0,0) by unfold A2x;rw[if_neg HN.out,if_neg (by simp[H6.out]),if_neg (by simp)])
    go_wp2
    go_ret2;exact⟨by rw[HR.out];rfl,rfl⟩
   by_cases u2:2048≤c%16*4096+x*64+y
   ·have HR:=Lib.hid (show A2x c x true y true=(c%16*4096+x*64+y,3) by unfold A2x;rw[if_neg HN.out,if_neg (by simp[H6.out]),if_pos ⟨H14.out,rfl,rfl⟩,if_pos u2])
    go_wp2
    go_ret2;exact⟨by rw[HR.out];rfl,rfl⟩
   ·have HR:=Lib.hid (show A2x c x true y true=(0,0) by unfold A2x;rw[if_neg HN.out,if_neg (by simp[H6.out]),if_pos ⟨H14.out,rfl,rfl⟩,if_neg u2])
    go_wp2
    go_ret2;exact⟨by rw[HR.out];rfl,rfl⟩
  ·have h14:((c:Int)/16==14)=false:=by simp;omega
   have HR:=Lib.hid (show A2x c x one y both=(0,0) by unfold A2x;rw[if_neg HN.out,if_neg (by simp[H6.out]),if_neg (by simp[c14])]);clear c14
   go_wp2
   go_ret2;exact⟨by rw[HR.out];rfl,rfl⟩
attribute [local go_sem↓] Go.wp_at_zero Go.wp_at_succ
def D4t(w:World)(r:Option (List UInt16))(e:Ending)(w':World):Prop:=
 match r with
 |none=>e= .returned (.tuple #[.slice none 0 0,.int .i64 8])∧Below w.heap.size w w'
 |some us=>∃v n,e= .returned (.tuple #[v,.int .i64 0])∧w'.ownsRow w.heap.size 231 1 v n (us.map D4x)∧Below w.heap.size w w'
def D0n(w:World)(n:Nat)(bs:List UInt8)(s t:Value)(wr:World):Prop:=
 ∃(a':Option Addr) (m c f k:Nat) (rest:List UInt8) (us:List UInt16),s= .slice a' m c∧m≤f∧f≤n∧m≤c∧k+m≤n∧Hid (Sl A5f w a' m rest)∧Hid (wr.ownsRow w.heap.size 231 1 t k (us.map D4x))∧Hid (Below w.heap.size w wr)∧
   Hid (A3p bs=(A5x f rest).map (us++·))
def D0g:Value→Nat| .slice _ m _=>m|_=>0
theorem C5u(w:World)(a:Option Addr)(n cap:Nat)(bs:List UInt8)(hs:Sl A5f w a n bs)(hn:n≤65536)(hcap:n≤cap):
  Calls Tryz.prog 169 #[.slice a n cap] w (D4t w (A3p bs)):=by
 have HS:=Lib.hid hs;have hnl:=hs.1;have HC:=Lib.hid hcap;clear hs hcap;go_enter Tryz.func169,Tryz.ntmps169
 go_wp2
 go_loopw [0,4] (fun s t wr=>D0n w n bs s t wr) (fun s _ _=>D0g s)
 case atStart=>exact⟨a,n,cap,n,0,bs,[],rfl,Nat.le_refl _,Nat.le_refl _,HC.out,by omega,HS,World.ownsRow_nil _ _ _ _,Below.refl _ _,by show _=_;unfold A3p;rw[hnl];simp⟩
 case round=>
  obtain⟨a',m,c,f,k,rest,us,rfl,hmf,hfn,hmc,hkm,HR,HO,HW,HD⟩:=hrel;by_cases hlt:0<m
  ·have hne:rest≠[]:=by intro h;have:=HR.out.1;rw[h]at this;simp at this;omega
   have hle:=D1r hne;rw[HR.out.1]at hle
   go_wp2_with fail
   refine(D2d _ _ _ _ rest (HR.out.below HW.out) (by omega) hlt).mono ?_;obtain⟨u,hu⟩:∃u,u=(A7e rest).1:=⟨_,rfl⟩;obtain⟨q,hq⟩:∃q,q=(A7e rest).2:=⟨_,rfl⟩;rw[←hu,←hq]at hle
   obtain⟨hq1,hu1⟩:=hle;unfold D0m;rw[←hu,←hq];have HU:=Lib.hid hu;have HQ:=Lib.hid hq;clear hu hq;rintro e w1 ⟨rfl,rfl⟩;obtain⟨f,rfl⟩:∃f',f=f'+1:=⟨f-1,by omega⟩
   have hstep:=B3b (f:=f) (bs:=rest) (by rw[HR.out.1];omega) hne;rw[←HU.out,←HQ.out]at hstep;have HT:=Lib.hid hstep;clear hstep hne;by_cases hq0:q=0
   ·have hN:A3p bs=none:=by rw[HD.out,HT.out,if_pos hq0];rfl
    have HN:=Lib.hid hN;clear hN;subst hq0
    go_wp2
    go_ret2;rw[HN.out];exact⟨rfl,HW.out⟩
   ·have hq2:((q:Int)==0)=false:=by simp;omega
    have hqp:0<q:=by omega
    have HD2:=Lib.hid (show A3p bs=(A5x f (rest.drop q)).map ((us++[UInt16.ofNat u])++·) by
     rw[HD.out,HT.out,if_neg hq0]
     cases A5x f (rest.drop q)<;>simp)
    have HE:=Lib.hid (show(Value.int .u16 (u:Int))=D4x (UInt16.ofNat u) by unfold D4x;rw[UInt16.toNat_ofNat_of_lt' hu1]);have g1:(0:Int)≤(q:Int):=by omega
    have g2:(q:Int)≤(m:Int):=by omega
    have g3:(m:Int)≤(c:Int):=by omega
    obtain⟨b,off,rfl,_⟩:=HR.out.drop (j:=0) hlt;by_cases hqc:c=q
    ·obtain rfl:q=m:=by omega
     subst hqc;clear hq0
     go_wp2_with fail
     go_region_law ((refine A9m E0w (by rfl) _ _ (by rfl) w.heap.size _ _ _ (by rfl) HO.out.drew _ 1 _ (by rfl) (by rfl) (by rfl) (by omega) (by unfold maxLen;omega) HW.out.size ?_;intro v1 w1 hown1 hg1 hb1))
     have HO1:=Lib.hid hown1;have HB1:=Lib.hid (HW.out.trans (((Below.refl _ _).drew).trans hb1));clear hown1 hg1 hb1
     go_wp2_with fail
     have hrel:D0n w n bs (.slice (some ⟨b,off,none⟩) 0 0) v1 w1:=
      ⟨_,0,0,f,k+1,_,us++[UInt16.ofNat u],rfl,by omega,by omega,by omega,by omega,by
       have hl:=HR.out.1;show Sl _ _ _ _ _;rw[List.drop_of_length_le (by omega)]
       exact Sl.nil _ _,by rw[List.map_append];show World.ownsRow _ _ _ _ _ _ (_++[_]);rw[←HE.out];exact HO1.out,HB1,HD2⟩
     exact⟨⟨_,_,_,_,hrel,rfl,rfl,rfl,rfl⟩,by simp only[D0g];omega⟩
    ·clear hq0
     go_wp2_with fail
     go_region_law ((refine A9m E0w (by rfl) _ _ (by rfl) w.heap.size _ _ _ (by rfl) HO.out.drew _ 1 _ (by rfl) (by rfl) (by rfl) (by omega) (by unfold maxLen;omega) HW.out.size ?_;intro v1 w1 hown1 hg1 hb1))
     have HO1:=Lib.hid hown1;have HB1:=Lib.hid (HW.out.trans (((Below.refl _ _).drew).trans hb1));clear hown1 hg1 hb1
     go_wp2_with fail
     have hSl:Sl A5f w (some ⟨b,off+q,none⟩) (m-q) (rest.drop q):=by
      by_cases hqm:q<m
      ·obtain⟨b',off',he,hSl⟩:=HR.out.drop hqm;simp only[Option.some.injEq,Addr.mk.injEq,and_true]at he;rw[he.1,he.2];exact hSl
      ·have hl:=HR.out.1;rw[List.drop_of_length_le (by omega),show m-q=0 by omega];exact Sl.nil _ _
     have hrel:D0n w n bs (.slice (some ⟨b,off+q,none⟩) (m-q) (c-q)) v1 w1:=
      ⟨_,m-q,c-q,f,k+1,_,us++[UInt16.ofNat u],rfl,by omega,by omega,by omega,by omega,hSl,
       by rw[List.map_append];show World.ownsRow _ _ _ _ _ _ (_++[_]);rw[←HE.out];exact HO1.out,HB1,HD2⟩
     exact⟨⟨_,_,_,_,hrel,rfl,rfl,rfl,rfl⟩,by simp only[D0g];omega⟩
  ·have hN:A3p bs=some us:=by
    have:rest=[]:=List.eq_nil_of_length_eq_zero (by rw[HR.out.1];omega);rw[HD.out,this];simp[A5x]
   have HN:=Lib.hid hN;clear hN
   go_wp2
   go_ret2;rw[HN.out];exact⟨_,k,rfl,HO.out,HW.out⟩
def D1x(r:Option (List UInt16)):Int×Int:=match r with|none=>(0,8)|some us=>(us.length,0)
theorem D6j(w:World)(a:Option Addr)(n cap:Nat)(bs:List UInt8)(hs:Sl A5f w a n bs)(hn:n≤65536)(hcap:n≤cap):
  Calls Tryz.prog 136 #[.slice a n cap] w fun e w'=>e= .returned (.tuple #[.int .i64 (D1x (A3p bs)).1,.int .i64 (D1x (A3p bs)).2])∧Below w.heap.size w w':=by
 have HD:=Lib.hid (C5u w a n cap bs hs hn hcap);clear hs hcap;go_enter Tryz.func136,Tryz.ntmps136
 go_wp2_with fail
 refine HD.out.mono ?_;intro e w1 hr;clear HD
 cases hd:A3p bs with
 |none=>
  rw[hd]at hr;obtain⟨rfl,hb⟩:=hr;have H:=Lib.hid hd;clear hd
  go_wp2
  go_ret2;exact⟨by rw[H.out];rfl,hb⟩
 |some us=>
  rw[hd]at hr;obtain⟨v,m,rfl,hown,hb⟩:=hr;obtain⟨a1,cap1,rfl,hsl,_⟩:=Sl.ofOwn hown;have hl:=hsl.1;have H:=Lib.hid hd;have HL:=Lib.hid hl;clear hd hown hsl hl
  go_wp2
  go_ret2;exact⟨by rw[H.out,show m=us.length from HL.out.symm];rfl,hb⟩
def A9j(p:UInt8→Bool)(bs:List UInt8):Int:=match bs.findIdx? p with|some i=>i|none=> -1
theorem C0a{p:UInt8→Bool}{bs:List UInt8}{k:Nat}(h:k<bs.length)(hp:p bs[k]=true)(hn:∀j (h:j<k) (h':j<bs.length),p bs[j]=false):A9j p bs=k:=by
 unfold A9j;rw[List.findIdx?_eq_some_iff_getElem.2 ⟨h,hp,fun j hj=>by have:=hn j hj (by omega);simp[this]⟩]
theorem B9y{p:UInt8→Bool}{bs:List UInt8}(hn:∀j (h':j<bs.length),p bs[j]=false):A9j p bs= -1:=by
 unfold A9j;rw[List.findIdx?_eq_none_iff.2 (fun x hx=>by obtain⟨j,hj,rfl⟩:=List.mem_iff_getElem.1 hx;exact hn j hj)]
theorem B8j(w:World)(a:Option Addr)(n cap:Nat)(bs:List UInt8)(f:Nat)(p:UInt8→Bool)(hs:Sl A5f w a n bs)(hn:n≤65536)
  (he:∀(args:Array Value) (w:World),(callFunc f args).run Tryz.prog w= .ok (.enter f args) w) (hf:∀(w:World) (c:UInt8),Calls Tryz.prog f #[.int .u8 (c.toNat:Int)] w fun e w'=>e= .returned (.bool (p c))∧w=w'):
  Calls Tryz.prog 168 #[.slice a n cap,.func (.func f) #[] #[]] w fun e w'=>e= .returned (.int .i64 (A9j p bs))∧w=w':=by
 have HS:=Lib.hid hs;have HF:=Lib.hid hf;clear hs hf;go_enter Tryz.func168,Tryz.ntmps168
 go_wp2
 go_loop [8] (fun i=>∃k:Nat,k≤n∧i= .int .i64 k∧Hid (∀j (h:j<k) (h':j<bs.length),p bs[j]=false)) (fun i=>n-(intOf i).toNat)
 case atStart=>exact⟨0,Nat.zero_le _,rfl,fun j h=>by omega⟩
 case round=>
  obtain⟨k,hk,rfl,HN⟩:=hrel;by_cases hlt:k<n
  ·obtain⟨b,off,rfl,hbl,hc⟩:=HS.out.2 (by omega);have hkl:k<bs.length:=by rw[HS.out.1];exact hlt
   have hck:w.cell? ⟨b,off+k,none⟩=some (.int .u8 (bs[k].toNat:Int)):=hc k hkl;clear hc hbl
   go_wp2_with fail
   refine(HF.out w bs[k]).mono ?_;rintro e w1 ⟨rfl,rfl⟩
   cases hp:p bs[k]
   ·have HP:=Lib.hid hp;clear hp
    go_wp2_with fail
    go_round
    case rel=>exact⟨k+1,by omega,by go_num,fun j hj hj'=>by
     by_cases h:j=k
     ·subst h;exact HP.out
     ·exact HN.out j (by omega) hj'⟩
    case measure=>simp[intOf];omega
   ·have HP:=Lib.hid hp;clear hp
    go_wp2_with fail
    go_ret;exact⟨A2s (C0a hkl HP.out (fun j hj hj'=>HN.out j hj hj')).symm,rfl⟩
  ·go_wp2
   go_ret;exact⟨A2s (B9y (fun j hj=>HN.out j (by have:=HS.out.1;omega) hj)).symm,rfl⟩
theorem C1m(p:UInt8→Bool)(bs:List UInt8):decide (0≤A9j p bs)=bs.any p:=by
 unfold A9j
 cases h:bs.findIdx? p with
 |none=>
  rw[List.findIdx?_eq_none_iff]at h;have:bs.any p=false:=by rw[List.any_eq_false];intro x hx;simp[h x hx]
  rw[this];rfl
 |some i=>
  obtain⟨hi,hp,_⟩:=List.findIdx?_eq_some_iff_getElem.1 h;have:bs.any p=true:=List.any_eq_true.2 ⟨_,List.getElem_mem hi,hp⟩;rw[this];simp
theorem B3q(w:World)(a:Option Addr)(n cap:Nat)(bs:List UInt8)(f:Nat)(p:UInt8→Bool)(hs:Sl A5f w a n bs)(hn:n≤65536)
  (he:∀(args:Array Value) (w:World),(callFunc f args).run Tryz.prog w= .ok (.enter f args) w) (hf:∀(w:World) (c:UInt8),Calls Tryz.prog f #[.int .u8 (c.toNat:Int)] w fun e w'=>e= .returned (.bool (p c))∧w=w'):
  Calls Tryz.prog 135 #[.slice a n cap,.func (.func f) #[] #[]] w fun e w'=>e= .returned (.bool (bs.any p))∧w=w':=by
 have HI:=Lib.hid (B8j w a n cap bs f p hs hn he hf);have HP:=Lib.hid (C1m p bs);clear hs he hf;go_enter Tryz.func135,Tryz.ntmps135
 go_wp2_with fail
 refine HI.out.mono ?_;rintro e w1 ⟨rfl,rfl⟩;obtain⟨q,hq⟩:∃q,q=A9j p bs:=⟨_,rfl⟩;rw[←hq]at HP⊢;clear hq HI
 go_wp2
 go_ret;exact⟨by rw[←HP.out];rfl,rfl⟩
theorem B2x(w:World)(bs:List UInt8):∃c w1,(convert 9 43 (.string ⟨bs.toArray⟩)).run Tryz.prog w= .ok (.slice (some ⟨w.heap.size,0,none⟩) bs.length c) w1∧
  Sl A5f w1 (some ⟨w.heap.size,0,none⟩) bs.length bs∧bs.length≤c∧Below w.heap.size w w1∧w1.heap.size=w.heap.size+1:=by
 have hr:=Lib.run_convert_string_bytes (P:=Tryz.prog) w 9 43 5 ⟨bs.toArray⟩ Tryz.underlying9 Tryz.underlying43 Tryz.underlying5;have hsz:(⟨bs.toArray⟩:ByteArray).size=bs.length:=by simp[ByteArray.size]
 rw[hsz]at hr
 refine⟨_,_,hr,⟨rfl,fun _=>⟨w.heap.size,0,rfl,by rw[Lib.bytesWorld_size];omega,fun i hi=> ?_⟩⟩,grownCap_ge _ _ _ _,⟨?_,?_,?_,by rw[Lib.bytesWorld_size];omega,fun k hk=>Lib.bytesWorld_at_old _ _ _ _ hk⟩,Lib.bytesWorld_size _ _ _⟩
 ·rw[Nat.zero_add,Lib.bytesWorld_cell _ _ _ i (by rw[hsz];exact hi)];simp[List.getD,hi,A5f]
 ·simp[Lib.bytesWorld,World.freeze,World.alloc,World.drew,-World.alloc_eq,-World.drew_eq]
 ·simp[Lib.bytesWorld,World.freeze,World.alloc,World.drew,-World.alloc_eq,-World.drew_eq]
 ·simp[Lib.bytesWorld,World.freeze,World.alloc,World.drew,-World.alloc_eq,-World.drew_eq]
theorem A2n{a b:Bool}(h:a=b):Ending.returned (.bool a)=Ending.returned (.bool b):=by rw[h]
def A9p(n:Nat):Bool:=(decide (97≤n)&&decide (n≤122))||(decide (65≤n)&&decide (n≤90))||(decide (48≤n)&&decide (n≤57))||decide (n=95)||decide (n=36)
theorem C2h(args:Array Value)(w:World):(callFunc 134 args).run Tryz.prog w= .ok (.enter 134 args) w:=by kernel_rfl
theorem B9h(args:Array Value)(w:World):(callFunc 85 args).run Tryz.prog w= .ok (.enter 85 args) w:=by kernel_rfl
theorem C9m(w:World)(n:Nat)(h:n<256):Calls Tryz.prog 134 #[.int .u8 (n:Int)] w fun e w'=>e= .returned (.bool (!A9p n))∧w=w':=by
 go_enter Tryz.func134,Tryz.ntmps134
 go_wp2
 all_goals (go_ret;refine⟨A2n ?_,rfl⟩;rw[Bool.eq_iff_iff];unfold A9p;simp only[Bool.or_eq_true,Bool.and_eq_true,decide_eq_true_eq,beq_iff_eq,Bool.not_eq_true',Bool.not_eq_false',beq_eq_false_iff_ne,ne_eq,Bool.or_eq_false_iff,Bool.and_eq_false_imp,decide_eq_false_iff_not,Bool.false_eq_true,false_iff,true_iff,Bool.not_eq_true,reduceCtorEq]at*;omega)
def B0x(s:List UInt8):Bool:= !s.isEmpty&&s.all fun c=>A9p c.toNat
theorem D2m(w:World)(s:List UInt8)(hl:s.length≤65536):Calls Tryz.prog 86 #[.string ⟨s.toArray⟩] w fun e w'=>e= .returned (.bool (B0x s))∧Below w.heap.size w w':=by
 obtain⟨r,hr⟩:∃r,r=B0x s:=⟨_,rfl⟩;rw[←hr];have hall:(s.all fun c=>A9p c.toNat)= !(s.any fun c=> !A9p c.toNat):=by rw[List.all_eq_not_any_not]
 unfold B0x at hr;rw[hall]at hr;have HR:=Lib.hid hr;clear hr hall;have HB0:=Lib.hid (Below.refl w.heap.size w)
 cases he:s.isEmpty
 ·obtain⟨c,w1,hcv,hs1,hc1,hb1,hz1⟩:=B2x w s;have HB1:=Lib.hid hb1
  have HCF:=Lib.hid (B3q w1 _ s.length c s 134 (fun c=> !A9p c.toNat) hs1 hl C2h (fun w c=>C9m w c.toNat c.toNat_lt));rw[he]at HR
  generalize(s.any fun c=> !A9p c.toNat)=ok at*;clear hs1 hb1 hl hc1 hz1;go_enter Tryz.func86,Tryz.ntmps86
  go_wp2_with fail
  refine HCF.out.mono ?_;rintro e w' ⟨rfl,rfl⟩
  go_wp2_with fail
  go_ret
  exact⟨A2n (by rw[HR.out];cases ok<;>rfl),HB1.out⟩
 ·rw[he]at HR;go_enter Tryz.func86,Tryz.ntmps86
  go_wp2_with fail
  go_ret;exact⟨A2n (by rw[HR.out];rfl),HB0.out⟩
theorem C5y(w:World)(s:List UInt8)(hl:s.length≤65536):Calls Tryz.prog 85 #[.string ⟨s.toArray⟩] w fun e w'=>e= .returned (.bool (!B0x s))∧Below w.heap.size w w':=by
 have HW:=Lib.hid (D2m w s hl);generalize B0x s=ok at*;go_enter Tryz.func85,Tryz.ntmps85
 go_wp2_with fail
 refine HW.out.mono ?_;rintro e w' ⟨rfl,hb⟩;have HB:=Lib.hid hb;clear hb
 go_wp2_with fail
 go_ret;exact⟨rfl,HB.out⟩
theorem B5v(w:World)(g cap f:Nat)(xs:List (List UInt8))(p:List UInt8→Bool)(hc:∀(j:Nat) x,xs[j]? =some x→w.cell? ⟨g,j,none⟩=some (.string ⟨x.toArray⟩))(hn:xs.length≤65536)
  (he:∀(args:Array Value) (w:World),(callFunc f args).run Tryz.prog w= .ok (.enter f args) w) (hf:∀(w:World) x,x∈xs→Calls Tryz.prog f #[.string ⟨x.toArray⟩] w fun e w'=>e= .returned (.bool (p x))∧Below w.heap.size w w'):
  Calls Tryz.prog 132 #[.slice (some ⟨g,0,none⟩) xs.length cap,.func (.func f) #[] #[]] w fun e w'=>∃r:Int,e= .returned (.int .i64 r)∧decide (0≤r)=xs.any p∧Below w.heap.size w w':=by
 obtain⟨n,hN⟩:∃n,n=xs.length:=⟨_,rfl⟩;rw[←hN]at hn⊢;have HN:=Lib.hid hN;have HC:=Lib.hid hc;have HF:=Lib.hid hf;clear hc hf hN;go_enter Tryz.func132,Tryz.ntmps132
 go_wp2_with fail
 go_loopg [8] n (fun gn i wr=>∃j:Nat,j≤n∧gn=n-j∧i= .int .i64 j∧Hid (∀k (h:k<xs.length),k<j→p xs[k]=false)∧Hid (Below w.heap.size w wr))
 case atStart=>exact⟨0,by omega,by omega,by go_num,Lib.hid (fun k h h0=>by omega),Lib.hid (Below.refl _ _)⟩
 case round=>
  obtain⟨j,hj,rfl,rfl,HG,HB⟩:=hrel;by_cases hlt:j<n
  ·have hjs:j<xs.length:=by rw[←HN.out];exact hlt
   have q0:wr.cell? ⟨g,j,none⟩=some (.string ⟨(xs[j]).toArray⟩):=B6t (HC.out j _ (List.getElem?_eq_getElem hjs)) HB.out
   have HY:=Lib.hid (show p xs[j]=true→xs.any p=true from fun h=>List.any_eq_true.2 ⟨xs[j],List.getElem_mem hjs,h⟩)
   have HX:=Lib.hid (show p xs[j]=false→∀k (h:k<xs.length),k<j+1→p xs[k]=false from fun h k hk hk2=>by
    rcases Nat.lt_or_ge k j with h1|h1
    ·exact HG.out k hk h1
    ·obtain rfl:k=j:=by omega
     exact h)
   have HCX:=Lib.hid (HF.out wr _ (List.getElem_mem hjs));have j1:(j:Int)<n:=by omega
   generalize xs[j]=x at*;generalize p x=ok at*;clear hjs
   go_wp2_with fail
   refine HCX.out.mono ?_;rintro e w' ⟨rfl,hb⟩;have HB2:=Lib.hid (HB.out.trans (hb.mono HB.out.size));clear hb
   cases ok
   ·have HM:=Lib.hid (HX.out rfl)
    go_wp2_with fail
    go_roundg (n-(j+1))
    case measure=>omega
    case rel=>exact⟨j+1,by omega,rfl,by go_num,HM,HB2⟩
   ·have HR:=Lib.hid (HY.out rfl)
    go_wp2_with fail
    go_ret;exact⟨_,rfl,by rw[HR.out];simp,HB2.out⟩
  ·obtain rfl:j=n:=by omega
   have HR:=Lib.hid (show xs.any p=false from by
    rw[List.any_eq_false];intro c hc;obtain⟨k,hk,rfl⟩:=List.getElem_of_mem hc;rw[HG.out k hk (by rw[←HN.out]at hk;exact hk)];decide)
   go_wp2_with fail
   go_ret;exact⟨_,rfl,by rw[HR.out];rfl,HB.out⟩
theorem B3a(w:World)(g cap f:Nat)(xs:List (List UInt8))(p:List UInt8→Bool)(hc:∀(j:Nat) x,xs[j]? =some x→w.cell? ⟨g,j,none⟩=some (.string ⟨x.toArray⟩))(hn:xs.length≤65536)
  (he:∀(args:Array Value) (w:World),(callFunc f args).run Tryz.prog w= .ok (.enter f args) w) (hf:∀(w:World) x,x∈xs→Calls Tryz.prog f #[.string ⟨x.toArray⟩] w fun e w'=>e= .returned (.bool (p x))∧Below w.heap.size w w'):
  Calls Tryz.prog 83 #[.slice (some ⟨g,0,none⟩) xs.length cap,.func (.func f) #[] #[]] w fun e w'=>e= .returned (.bool (xs.any p))∧Below w.heap.size w w':=by
 have HI:=Lib.hid (B5v w g cap f xs p hc hn he hf);generalize xs.any p=ok at*;generalize xs.length=n at*;clear hc hf he;go_enter Tryz.func83,Tryz.ntmps83
 go_wp2_with fail
 refine HI.out.mono ?_;rintro e w' ⟨r,rfl,hr,hb⟩;have HB:=Lib.hid hb;clear hb
 go_wp2_with fail
 go_ret;exact⟨rfl,HB.out⟩
def classB(s:List UInt8):Bool:=decide (s.length≤64)&&(sp 47 s).all B0x
theorem B7a(c:UInt8):∀(s:List UInt8) x,x∈sp c s→x.length≤s.length
 |[],x,h=>by simp[sp]at h;subst h;simp
 |b::l,x,h=>by
  have ih:=B7a c l;unfold sp at h;split at h
  ·rcases List.mem_cons.1 h with rfl|h
   ·simp
   ·have:=ih x h;simp;omega
  ·split at h
   ·simp at h;subst h;simp
   ·next y ys e=>
    rw[e]at ih
    rcases List.mem_cons.1 h with rfl|h
    ·have:=ih y (by simp);simp;omega
    ·have:=ih x (by simp[h]);simp;omega
theorem D0h(c:UInt8)(s:List UInt8):(sp c s).length≤s.length+1:=by
 induction s with
 |nil=>simp[sp]
 |cons b l ih=>
  unfold sp;split
  ·simp;omega
  ·split
   ·simp
   ·next e=>rw[e]at ih;simp at ih⊢;omega
theorem A7b(w:World)(s:List UInt8)(hl:s.length≤4294967000)(hv:VW w):Calls Tryz.prog 42 #[.string ⟨s.toArray⟩] w fun e w'=>e= .returned (.bool (classB s))∧Below w.heap.size w w':=by
 obtain⟨r,hr⟩:∃r,r=classB s:=⟨_,rfl⟩;rw[←hr];unfold classB at hr;have hall:(sp 47 s).all B0x= !((sp 47 s).any fun x=> !B0x x):=by rw[List.all_eq_not_any_not]
 rw[hall]at hr;have HR:=Lib.hid hr;clear hr hall;have hsz:(⟨s.toArray⟩:ByteArray).size=s.length:=by simp[ByteArray.size]
 by_cases h64:s.length≤64
 ·have hl2:decide ((s.length:Int)≤64)=true:=by simp;omega
  have HS:=Lib.hid (D0w w s 47 hl hv);have h1:=D0h 47 s
  have hb1:Below w.heap.size w (w.alloc (.cells ((sp 47 s).map fun x=>Value.string ⟨x.toArray⟩).toArray 9)):=(Below.refl _ _).alloc (Nat.le_refl _) _;have HB1:=Lib.hid hb1
  have HC:=Lib.hid (fun W1 (h:W1=w.alloc (.cells ((sp 47 s).map fun x=>Value.string ⟨x.toArray⟩).toArray 9))=>B3a W1 w.heap.size (sp 47 s).length 85 (sp 47 s) (fun x=> !B0x x) (fun j x hx=>by
   subst h;rw[cell_of_row _ w.heap.size j _ _ _ (heap_alloc_last w _)];simp[hx]) (by omega) B9h (fun w x hx=>C5y w x (by have:=B7a 47 s x hx;omega)))
  rw[decide_eq_true h64]at HR;generalize((sp 47 s).any fun x=> !B0x x)=ok at*;generalize(sp 47 s)=xs at*;clear hl hv h64 hb1 h1;go_enter Tryz.func42,Tryz.ntmps42
  go_wp2_with fail
  refine HS.out.mono ?_;rintro e w1 ⟨rfl,hw1⟩;have HC2:=Lib.hid (HC.out w1 hw1);rw[←hw1]at HB1;clear hw1 HC
  go_wp2_with fail
  refine HC2.out.mono ?_;rintro e w2 ⟨rfl,hb2⟩;have HB2:=Lib.hid (HB1.out.trans (hb2.mono HB1.out.size));clear hb2
  go_wp2_with fail
  go_ret
  exact⟨A2n (by rw[HR.out];cases ok<;>rfl),HB2.out⟩
 ·have hl2:decide ((s.length:Int)≤64)=false:=by simp;omega
  have HB0:=Lib.hid (Below.refl w.heap.size w);rw[decide_eq_false h64]at HR;clear hl hv h64;go_enter Tryz.func42,Tryz.ntmps42
  go_wp2_with fail
  go_ret;exact⟨A2n (by rw[HR.out];rfl),HB0.out⟩
def cls:Nat→List UInt8→Bool
 |l,[]=>decide (l≠47)
 |l,c::s=>(A9p c.toNat||(decide (c.toNat=47)&&decide (l≠47)))&&cls c.toNat s
theorem D8f(c:UInt8):c=47↔c.toNat=47:=⟨fun h=>by rw[h];rfl,fun h=>UInt8.toNat_inj.1 h⟩
theorem E0c(c:UInt8)(s:List UInt8):∃x xs,sp c s=x::xs:=by
 cases s with
 |nil=>exact⟨_,_,rfl⟩
 |cons b l=>
  unfold sp;split
  ·exact⟨_,_,rfl⟩
  ·split
   ·exact⟨_,_,rfl⟩
   ·exact⟨_,_,rfl⟩
theorem D5f:∀(s:List UInt8) (l:Nat) x xs,sp 47 s=x::xs→cls l s=((if l=47 then B0x x else x.all fun c=>A9p c.toNat)&&xs.all B0x)
 |[],l,x,xs,h=>by
  simp only[sp,List.cons.injEq]at h;obtain⟨rfl,rfl⟩:=h;unfold cls;by_cases hl:l=47<;>simp[hl,B0x]
 |c::s,l,x,xs,h=>by
  obtain⟨y,ys,e⟩:=E0c 47 s;have ih:=D5f s c.toNat y ys e;unfold sp at h;unfold cls;rw[ih];by_cases hc:c=47
  ·rw[if_pos hc]at h;obtain⟨rfl,rfl⟩:=List.cons.inj h;rw[e];have hc2:c.toNat=47:=(D8f c).1 hc;have hw:A9p c.toNat=false:=by rw[hc2];decide
   by_cases hl:l=47<;>simp[hl,hc2,B0x,show A9p 47=false from by decide]
  ·rw[if_neg hc,e]at h;obtain⟨rfl,rfl⟩:=List.cons.inj h;have hc2:¬c.toNat=47:=fun h=>hc ((D8f c).2 h)
   rw[if_neg hc2];by_cases hl:l=47<;>simp[hl,hc2,B0x,Bool.and_assoc]
theorem B9c(s:List UInt8):classB s=(decide (s.length≤64)&&cls 47 s):=by
 obtain⟨y,ys,e⟩:=E0c 47 s;rw[D5f s 47 y ys e];unfold classB;rw[e];simp
theorem A2u(w:World)(s:List UInt8)(hn:s.length≤281474976710656):Calls Tryz.prog 27 #[.string ⟨s.toArray⟩] w fun e w'=>e= .returned (.bool (classB s))∧w'=w:=by
 obtain⟨n,hN⟩:∃n,n=s.length:=⟨_,rfl⟩;have HLn:=Lib.hid hN;obtain⟨r,hr⟩:∃r,r=classB s:=⟨_,rfl⟩;rw[←hr];rw[B9c,←hN]at hr;rw[←hN]at hn;have HR:=Lib.hid hr
 have hsz:(⟨s.toArray⟩:ByteArray).size=n:=by rw[hN];simp[ByteArray.size]
 clear hr hN;go_enter Tryz.func27,Tryz.ntmps27
 go_wp2_with fail
 go_loopg [3,4] n (fun gn la i wr=>∃j l:Nat,j≤n∧gn=n-j∧la= .int .u8 l∧l<256∧i= .int .i64 j∧Hid (cls 47 s=cls l (s.drop j))∧wr=w)
 case atStart=>exact⟨0,47,by omega,by omega,rfl,by omega,by go_num,Lib.hid rfl,rfl⟩
 case round=>
  obtain⟨j,l,hj,rfl,rfl,hl,rfl,HG,rfl⟩:=hrel;by_cases hlt:j<n
  ·have j1:(j:Int)<n:=by omega
   go_upto_region 6 with fail
   have hjs:j<s.length:=by rw[←HLn.out];exact hlt
   generalize hc0:(({data:=s.toArray}:ByteArray)[j]'(by rw[hsz];exact hlt)).toNat=c;have hc1:(s[j]'hjs).toNat=c:=hc0
   have hcl:cls 47 s=((A9p c||(decide (c=47)&&decide (l≠47)))&&cls c (s.drop (j+1))):=by
    rw[HG.out,List.drop_eq_getElem_cons hjs,cls,hc1]
   have HF:=Lib.hid (show(A9p c||(decide (c=47)&&decide (l≠47)))=false→r=false from fun h=>by rw[HR.out,hcl,h,Bool.false_and,Bool.and_false])
   have HM:=Lib.hid (show(A9p c||(decide (c=47)&&decide (l≠47)))=true→cls 47 s=cls c (s.drop (j+1))from fun h=>by rw[hcl,h,Bool.true_and])
   have hc2:c<256:=by rw[←hc1];exact(s[j]'hjs).toNat_lt
   clear hc0 hc1 hjs hcl
   go_wp2_with fail
   all_goals first
    |(go_ret
      exact⟨A2n (HF.out (by unfold A9p;rw[Bool.eq_false_iff];simp only[Bool.or_eq_true,Bool.and_eq_true,decide_eq_true_eq,beq_iff_eq,Bool.not_eq_true',Bool.not_eq_false',decide_eq_false_iff_not,beq_eq_false_iff_ne,bne_iff_ne,bne_eq_false_iff_eq,ne_eq]at*;omega)).symm,rfl⟩)
    |(go_roundg (n-(j+1))
      case measure=>omega
      case rel=>exact⟨j+1,c,by omega,rfl,by go_num,hc2,by go_num,Lib.hid (HM.out (by unfold A9p;simp only[Bool.or_eq_true,Bool.and_eq_true,decide_eq_true_eq,beq_iff_eq,Bool.not_eq_true',Bool.not_eq_false',decide_eq_false_iff_not,beq_eq_false_iff_ne,bne_iff_ne,bne_eq_false_iff_eq,ne_eq]at*;omega)),rfl⟩)
  ·obtain rfl:j=n:=by omega
   have HQ:=Lib.hid (show r=(decide (j≤64)&&decide (l≠47))from by
    rw[HR.out,HG.out,List.drop_eq_nil_of_le (by rw[←HLn.out];exact Nat.le_refl _),cls])
   by_cases h1:j≤64
   ·have e1:decide ((j:Int)≤64)=true:=by simp;omega
    have HQ2:=Lib.hid (show r=decide (l≠47) by rw[HQ.out,decide_eq_true h1,Bool.true_and]);clear h1
    go_wp2_with fail
    go_ret;refine⟨A2n ?_,rfl⟩;rw[HQ2.out,Bool.eq_iff_iff];simp only[bne_iff_ne,decide_eq_true_eq,ne_eq];omega
   ·have e1:decide ((j:Int)≤64)=false:=by simp;omega
    have HQ2:=Lib.hid (show r=false by rw[HQ.out,decide_eq_false h1,Bool.false_and]);clear h1
    go_wp2_with fail
    go_ret;exact⟨A2n HQ2.out.symm,rfl⟩
end
end Go.Proofs.YtclpkipaehpkdaaGreatDoor
