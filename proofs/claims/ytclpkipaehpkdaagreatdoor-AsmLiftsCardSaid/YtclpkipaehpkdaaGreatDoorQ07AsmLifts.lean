/- asm: own texts, merged (wip/merge3.py). No condition. -/
import Derived.Test.YtclpkipaehpkdaaGreatDoorQ06AsmLifts
import Derived.Test.YtclpkipaehpkdaaGreatDoorQ01AsmLifts
import Derived.Test.YtclpkipaehpkdaaGreatDoorQ04AsmLifts
import Derived.Maps.OwnSet
set_option linter.unusedVariables false
set_option linter.unusedSimpArgs false
set_option maxRecDepth 100000
set_option maxHeartbeats 64000000
namespace Go.Proofs.YtclpkipaehpkdaaGreatDoor
section
open Go.ChangeShapes Go.WideShapes Go.ChangeAt Go.RowKit
theorem B1w{t e:TypeId}{len:Nat}(ht:Tryz.prog.underlying t=some (.array len e))(hs:∀w,(sizeOf e).run Tryz.prog w= .ok 1 w)(hp:∀w (cs:Array Value) (i:Nat) (v:Value),cs[i]? =some v→(part e cs i).run Tryz.prog w= .ok v w){cs:Array Value}{k:Nat}(hk:k<len){v:Value}(hx:cs[k]? =some v)(kd:IntKind)(w:World):
  (Instr.index t (.agg cs) (.int kd k)).run Tryz.prog w= .ok v w:=by
 have h2:(0:Int)≤(k:Int)∧(k:Int)<(len:Int):=⟨by omega,by omega⟩;simp[Instr.index,asIntOf,run_underlying ht,hk,hs,hp _ _ _ _ hx]
theorem C8t(w:World):(sizeOf 5).run Tryz.prog w= .ok 1 w:=by kernel_rfl
theorem B6n{e:TypeId}{d:TypeDesc}(h1:Tryz.prog.underlying e=some d)(h2:(match d with| .struct _| .array _ _=>false|_=>true)=true)(w:World)(cs:Array Value)(i:Nat)(v:Value)(h3:cs[i]? =some v):(part e cs i).run Tryz.prog w= .ok v w:=by
 cases d<;>simp[part,isAgg,run_underlying h1,h3]at h2⊢
theorem D7q(w:World)(f:Nat→Nat)(k:Nat)(h:k<256)(kd:IntKind):(Instr.index 164 (.agg (A8g f)) (.int kd k)).run Tryz.prog w= .ok (.int .u8 (f k:Nat)) w:=
 B1w Tryz.underlying164 C8t (B6n Tryz.underlying5 rfl) h (B0u f k h) kd w
def B0f(v:Value)(w:World)(e:Ending)(w':World):Prop:=e= .returned v∧Below w.heap.size w w'
theorem B1x(w:World)(k:Nat)(hk:k<256):Calls Tryz.prog 102 #[.int .u8 (k:Nat)] w (B0f (.int .i64 (A0q k:Nat)) w):=by
 have h9:=A4j k;go_enter Tryz.func102,Tryz.ntmps102
 go_wp2_with fail
 refine(B4x _).mono ?_;rintro e w1 ⟨rfl,hb1⟩;have HB:=Lib.hid hb1;have hi:=D7q w1 A0q k hk .u8;clear hb1;generalize A0q k=f at*
 go_wp2_with fail
 go_ret;exact⟨rfl,HB.out⟩
theorem B1r(f:Nat):A2m f≤3:=by
 unfold A2m
 match f with
 |0|1|2|3|4|5|6|7|8|9=>decide
 |n+10=>simp
theorem A5d(w:World)(f:Nat)(hf:f≤9):Calls Tryz.prog 99 #[.int .i64 (f:Nat)] w fun e w'=>e= .returned (.int .i64 (A2m f:Nat))∧w=w':=by
 have hi:=fun(w:World)=>B1w (cs:= #[.int .u8 0,.int .u8 1,.int .u8 2,.int .u8 2,.int .u8 3,.int .u8 2,.int .u8 3,.int .u8 3,.int .u8 3,.int .u8 2]) (v:= .int .u8 (A2m f:Nat)) (k:=f) Tryz.underlying209 C8t (B6n Tryz.underlying5 rfl) (by omega) (by
  match f,hf with
  |0,_|1,_|2,_|3,_|4,_|5,_|6,_|7,_|8,_|9,_=>rfl
  |n+10,h=>omega) .i64 w
 have h3:=B1r f;generalize A2m f=s at*;go_enter Tryz.func99,Tryz.ntmps99
 go_wp2_with fail
 go_ret;exact⟨rfl,rfl⟩
theorem D4j(w:World)(k:Nat)(hk:k<256):Calls Tryz.prog 122 #[.int .u8 (k:Nat)] w (B0f (.int .i64 (A2m (A0q k):Nat)) w):=by
 have h9:=A4j k;go_enter Tryz.func122,Tryz.ntmps122
 go_wp2_with fail
 refine(B1x _ k hk).mono ?_;rintro e w1 ⟨rfl,hb1⟩;have HB:=Lib.hid hb1;clear hb1
 go_wp2_with fail
 refine(A5d _ _ h9).mono ?_;rintro e w' ⟨rfl,rfl⟩
 go_wp2_with fail
 go_ret;exact⟨rfl,HB.out⟩
theorem C6w{k:Nat}{m:Int}{c:Int}(h:((k:Int)==m)=true)(hm:(A0q m.toNat:Int)=c):c=(A0q k:Int):=by
 have:(k:Int)=m:=by simpa using h
 subst this;simpa using hm.symm
def D7h(k:Int):Bool:=[21,22,25,54,55,58,16,17,18,20,178,179,180,181,182,184,187,189,192,193,153,154,155,156,157,158,159,160,161,162,163,164,165,166,167,198,199,132,188,0,1,9,10,46,50,51,79,83,84,87,89,95,96,97,100,101,104,105,108,109,112,113,116,117,120,121,122,123,124,125,126,127,128,129,130,131,133,136,145,148,172,173,176,177,190,191].all fun m:Int=>(k==m)==false
theorem C2r:∀k:Fin 256,8<k.val→D7h (k.val:Int)=true→A0q k.val=0:=by decide
theorem C6d{k:Nat}(hk:k<256)(h8:8<k)(h:D7h k=true):(0:Int)=(A0q k:Int):=by
 have:=C2r ⟨k,hk⟩ h8 h;simp only at this;rw[this];rfl
theorem C5e:∀k:Fin 9,A0q k.val=1:=by decide
theorem D0e{k:Nat}(h8:k≤8):(1:Int)=(A0q k:Int):=by
 have:=C5e ⟨k,by omega⟩;simp only at this;rw[this];rfl
theorem A8k(w:World)(k:Nat)(hk:k<256):Calls Tryz.prog 113 #[.int .u8 (k:Nat)] w fun e w'=>e= .returned (.int .i64 (A0q k:Nat))∧w=w':=by
 obtain⟨f,hf⟩:∃f,f=A0q k:=⟨_,rfl⟩;rw[←hf];have HF:=Lib.hid hf;clear hf;go_enter Tryz.func113,Tryz.ntmps113
 go_wp2_with fail
 all_goals first|(go_ret;exact⟨A2s (by rw[HF.out];exact C6w (by assumption) (by decide)),rfl⟩)|skip
 ·go_ret;exact⟨A2s (by rw[HF.out];exact D0e (by omega)),rfl⟩
 ·go_ret;exact⟨A2s (by rw[HF.out];exact C6d hk (by omega) (by simp only[D7h,List.all_cons,List.all_nil, *];rfl)),rfl⟩
 ·exfalso;have h0:((k:Int)==0)=false:=by assumption
  have h1:((k:Int)==1)=false:=by assumption
  simp at h0 h1;omega
def U64(n:Int):Prop:=0≤n∧n<18446744073709551616
def A2p(v n:Int):Int:=if n<1∨8<n then 0 else(v+2^(8*n.toNat-1))%2^(8*n.toNat) -2^(8*n.toNat-1)
theorem B5i(v n:Int)(h:n<1∨8<n):A2p v n=0:=by unfold A2p;rw[if_pos h]
theorem D6y(v:Int):A2p v 8=wrap64 v:=by unfold wrap64;rfl
theorem A8u(w:World)(v n:Int)(hv:U64 v)(hn:A4x n):Calls Tryz.prog 114 #[.int .u64 v,.int .i64 n] w fun e w'=>e= .returned (.int .i64 (A2p v n))∧w=w':=by
 obtain⟨v1,v2⟩:=hv;by_cases c1:n<1
 ·rw[B5i v n (.inl c1)];have e1:=decide_eq_true c1;go_enter Tryz.func114,Tryz.ntmps114
  go_wp2
  go_ret;exact⟨rfl,rfl⟩
 by_cases c2:8<n
 ·rw[B5i v n (.inr c2)];have e1:=decide_eq_false c1;have e2:=decide_eq_true c2;go_enter Tryz.func114,Tryz.ntmps114
  go_wp2
  go_ret;exact⟨rfl,rfl⟩
 have hc:n=8∨n=1∨n=2∨n=3∨n=4∨n=5∨n=6∨n=7:=by omega
 clear c1 c2 hn
 rcases hc with rfl|hc
 ·rw[D6y];go_enter Tryz.func114,Tryz.ntmps114
  go_wp2
  go_ret;exact⟨rfl,rfl⟩
 have hmod:∀p:Int,v.tmod p=v%p:=fun p=>Int.tmod_eq_emod_of_nonneg v1
 rcases hc with rfl|rfl|rfl|rfl|rfl|rfl|rfl
 ·rw[show A2p v 1=(v+128)%256-128 from rfl];have hm:=hmod 256;clear hmod;by_cases hh:v%256<128
  ·go_enter Tryz.func114,Tryz.ntmps114
   go_wp2
   go_ret;exact⟨A2s (by omega),rfl⟩
  ·go_enter Tryz.func114,Tryz.ntmps114
   go_wp2
   go_ret;exact⟨A2s (by omega),rfl⟩
 ·rw[show A2p v 2=(v+32768)%65536-32768 from rfl];have hm:=hmod 65536;clear hmod;by_cases hh:v%65536<32768
  ·go_enter Tryz.func114,Tryz.ntmps114
   go_wp2
   go_ret;exact⟨A2s (by omega),rfl⟩
  ·go_enter Tryz.func114,Tryz.ntmps114
   go_wp2
   go_ret;exact⟨A2s (by omega),rfl⟩
 ·rw[show A2p v 3=(v+8388608)%16777216-8388608 from rfl];have hm:=hmod 16777216;clear hmod;by_cases hh:v%16777216<8388608
  ·go_enter Tryz.func114,Tryz.ntmps114
   go_wp2
   go_ret;exact⟨A2s (by omega),rfl⟩
  ·go_enter Tryz.func114,Tryz.ntmps114
   go_wp2
   go_ret;exact⟨A2s (by omega),rfl⟩
 ·rw[show A2p v 4=(v+2147483648)%4294967296-2147483648 from rfl];have hm:=hmod 4294967296;clear hmod;by_cases hh:v%4294967296<2147483648
  ·go_enter Tryz.func114,Tryz.ntmps114
   go_wp2
   go_ret;exact⟨A2s (by omega),rfl⟩
  ·go_enter Tryz.func114,Tryz.ntmps114
   go_wp2
   go_ret;exact⟨A2s (by omega),rfl⟩
 ·rw[show A2p v 5=(v+549755813888)%1099511627776-549755813888 from rfl];have hm:=hmod 1099511627776;clear hmod;by_cases hh:v%1099511627776<549755813888
  ·go_enter Tryz.func114,Tryz.ntmps114
   go_wp2
   go_ret;exact⟨A2s (by omega),rfl⟩
  ·go_enter Tryz.func114,Tryz.ntmps114
   go_wp2
   go_ret;exact⟨A2s (by omega),rfl⟩
 ·rw[show A2p v 6=(v+140737488355328)%281474976710656-140737488355328 from rfl];have hm:=hmod 281474976710656;clear hmod;by_cases hh:v%281474976710656<140737488355328
  ·go_enter Tryz.func114,Tryz.ntmps114
   go_wp2
   go_ret;exact⟨A2s (by omega),rfl⟩
  ·go_enter Tryz.func114,Tryz.ntmps114
   go_wp2
   go_ret;exact⟨A2s (by omega),rfl⟩
 ·rw[show A2p v 7=(v+36028797018963968)%72057594037927936-36028797018963968 from rfl];have hm:=hmod 72057594037927936;clear hmod;by_cases hh:v%72057594037927936<36028797018963968
  ·go_enter Tryz.func114,Tryz.ntmps114
   go_wp2
   go_ret;exact⟨A2s (by omega),rfl⟩
  ·go_enter Tryz.func114,Tryz.ntmps114
   go_wp2
   go_ret;exact⟨A2s (by omega),rfl⟩
theorem B3u(w:World)(v n:Int)(hv:U64 v)(hn:A4x n):Calls Tryz.prog 148 #[.int .u64 v,.int .i64 n] w fun e w'=>e= .returned (.int .i64 (A2p v n))∧w=w':=by
 obtain⟨v1,v2⟩:=hv;by_cases c1:n<1∨8<n
 ·rw[B5i v n c1];have hd:decide (1≤n∧n≤8)=false:=decide_eq_false (by omega);clear c1;go_enter Tryz.func148,Tryz.ntmps148
  go_wp2_with fail
  refine(A3i _ n).mono ?_;rw[hd];rintro e w' ⟨rfl,rfl⟩
  go_wp2
  go_ret;exact⟨rfl,rfl⟩
 have hc:n=1∨n=2∨n=3∨n=4∨n=5∨n=6∨n=7∨n=8:=by omega
 clear c1 hn
 rcases hc with rfl|rfl|rfl|rfl|rfl|rfl|rfl|rfl
 ·rw[show A2p v 1=(v+128)%256-128 from rfl];go_enter Tryz.func148,Tryz.ntmps148
  go_wp2_with fail
  refine(A3i _ 1).mono ?_;rw[show decide ((1:Int)≤1∧(1:Int)≤8)=true from rfl];rintro e w' ⟨rfl,rfl⟩
  go_wp2
  go_ret;exact⟨A2s (by simp only[IntKind.wrap_u64,wrap64]<;>omega),rfl⟩
 ·rw[show A2p v 2=(v+32768)%65536-32768 from rfl];go_enter Tryz.func148,Tryz.ntmps148
  go_wp2_with fail
  refine(A3i _ 2).mono ?_;rw[show decide ((1:Int)≤2∧(2:Int)≤8)=true from rfl];rintro e w' ⟨rfl,rfl⟩
  go_wp2
  go_ret;exact⟨A2s (by simp only[IntKind.wrap_u64,wrap64]<;>omega),rfl⟩
 ·rw[show A2p v 3=(v+8388608)%16777216-8388608 from rfl];go_enter Tryz.func148,Tryz.ntmps148
  go_wp2_with fail
  refine(A3i _ 3).mono ?_;rw[show decide ((1:Int)≤3∧(3:Int)≤8)=true from rfl];rintro e w' ⟨rfl,rfl⟩
  go_wp2
  go_ret;exact⟨A2s (by simp only[IntKind.wrap_u64,wrap64]<;>omega),rfl⟩
 ·rw[show A2p v 4=(v+2147483648)%4294967296-2147483648 from rfl];go_enter Tryz.func148,Tryz.ntmps148
  go_wp2_with fail
  refine(A3i _ 4).mono ?_;rw[show decide ((1:Int)≤4∧(4:Int)≤8)=true from rfl];rintro e w' ⟨rfl,rfl⟩
  go_wp2
  go_ret;exact⟨A2s (by simp only[IntKind.wrap_u64,wrap64]<;>omega),rfl⟩
 ·rw[show A2p v 5=(v+549755813888)%1099511627776-549755813888 from rfl];go_enter Tryz.func148,Tryz.ntmps148
  go_wp2_with fail
  refine(A3i _ 5).mono ?_;rw[show decide ((1:Int)≤5∧(5:Int)≤8)=true from rfl];rintro e w' ⟨rfl,rfl⟩
  go_wp2
  go_ret;exact⟨A2s (by simp only[IntKind.wrap_u64,wrap64]<;>omega),rfl⟩
 ·rw[show A2p v 6=(v+140737488355328)%281474976710656-140737488355328 from rfl];go_enter Tryz.func148,Tryz.ntmps148
  go_wp2_with fail
  refine(A3i _ 6).mono ?_;rw[show decide ((1:Int)≤6∧(6:Int)≤8)=true from rfl];rintro e w' ⟨rfl,rfl⟩
  go_wp2
  go_ret;exact⟨A2s (by simp only[IntKind.wrap_u64,wrap64]<;>omega),rfl⟩
 ·rw[show A2p v 7=(v+36028797018963968)%72057594037927936-36028797018963968 from rfl];go_enter Tryz.func148,Tryz.ntmps148
  go_wp2_with fail
  refine(A3i _ 7).mono ?_;rw[show decide ((1:Int)≤7∧(7:Int)≤8)=true from rfl];rintro e w' ⟨rfl,rfl⟩
  go_wp2
  go_ret;exact⟨A2s (by simp only[IntKind.wrap_u64,wrap64]<;>omega),rfl⟩
 ·rw[show A2p v 8=(v+9223372036854775808)%18446744073709551616-9223372036854775808 from rfl];go_enter Tryz.func148,Tryz.ntmps148
  go_wp2_with fail
  refine(A3i _ 8).mono ?_;rw[show decide ((1:Int)≤8∧(8:Int)≤8)=true from rfl];rintro e w' ⟨rfl,rfl⟩
  go_wp2
  go_ret;exact⟨A2s (by simp only[IntKind.wrap_u64,wrap64]<;>omega),rfl⟩
structure RW where
 pos:Int
 op:Nat
 a:Int
 b:Int
def RW.cells(r:RW):List Value:=[.int .i64 r.pos,.int .u8 (r.op:Nat),.int .i64 r.a,.int .i64 r.b]
theorem RW.cells_length(r:RW):r.cells.length=4:=rfl
def thereB(l:List RW)(p:Int):Bool:=l.any fun r=>r.pos==p
def A7y(l:List RW):Bool:=l.all fun r=> !(A0q r.op==7)||thereB l r.a
def A2d(bs:List UInt8)(p f:Nat):Int:=(A5s bs ((p:Int)+1) ((max (A2m f-1) 1:Nat):Int)).1
def A1s(bs:List UInt8)(p f:Nat):Int:=
 let v:=A2d bs p f
 if f=1 then 0 else if f=3 then A2p v 1 else if f=4 then A2p v 2 else if f=7 then(p:Int)+A2p v 2 else if f=8 then v/256 else v
def A2f(bs:List UInt8)(p f:Nat):Int:=if f=8 then A2p (A2d bs p f) 1 else 0
def A2b(bs:List UInt8)(p f:Nat):Bool:=f==9&& !(A1s bs p f==8)&& !(A1s bs p f==10)
def A3u(bs:List UInt8)(p:Nat):Nat:=(bs.getD p 0).toNat
def A7q(bs:List UInt8)(p:Nat):RW:=⟨p,A3u bs p,A1s bs p (A0q (A3u bs p)),A2f bs p (A0q (A3u bs p))⟩
def A9b(bs:List UInt8):Nat→Nat→List RW→Int×List RW
 |0,_,acc=>(0,acc)
 |fuel+1,p,acc=>
  if bs.length≤p then(0,acc)
  else if A0q (A3u bs p)=0 then(8,[])
  else if bs.length-p<A2m (A0q (A3u bs p))then(6,[])
  else if A2b bs p (A0q (A3u bs p))=true then(8,[])
  else A9b bs fuel (p+A2m (A0q (A3u bs p))) (acc++[A7q bs p])
def A1g(bs:List UInt8):Int×List RW:=
 if 4096<bs.length then(9,[])
 else if(A9b bs (bs.length+1) 0 []).1≠0 then((A9b bs (bs.length+1) 0 []).1,[])
 else if A7y (A9b bs (bs.length+1) 0 []).2=true then(0,(A9b bs (bs.length+1) 0 []).2)
 else(2,[])
def A2j(r:RW)(f:Nat):Bool:=
 if f≠8∧r.b≠0 then false
 else if f=1 then decide (r.a=0)
 else if f=3 then decide (-128≤r.a∧r.a≤127)
 else if f=4 then decide (-32768≤r.a∧r.a≤32767)
 else if f=6 then decide (0≤r.a∧r.a≤65535)
 else if f=9 then decide (r.a=8∨r.a=10)
 else if f=8 then decide (0≤r.a∧r.a≤255)&&decide (-128≤r.b∧r.b≤127)
 else if f=2∨f=5 then decide (0≤r.a∧r.a≤255)
 else decide (f=7)
def B0q(n:Int):Nat:=(n%18446744073709551616).toNat
theorem C1g(n:Int):B0q n<18446744073709551616:=by unfold B0q;omega
theorem B1z(n:Int):IntKind.u64.wrap n=(B0q n:Int):=by rw[IntKind.wrap_u64];unfold B0q;omega
def A6j(r:RW):List UInt8:=
 UInt8.ofNat r.op::(if A0q r.op=7 then A6t (B0q (r.a-r.pos)) 2 else if A0q r.op=8 then A6t (B0q r.a) 1++A6t (B0q r.b) 1 else A6t (B0q r.a) (A2m (A0q r.op) -1))
def A9d(l:List RW):List UInt8:=l.flatMap A6j
def A5c(l:List RW)(k:Nat):Bool:=
 match l[k]? with
 |some r=>A2j r (A0q r.op)&&decide (r.pos=((A9d (l.take k)).length:Nat))
 |none=>true
def A4b(l:List RW):Int×List UInt8:=
 if(List.range l.length).all (A5c l)=false then(8,[])
 else if A7y l=false then(2,[])
 else if 4096<(A9d l).length then(9,[])
 else(0,A9d l)
end
section
open Go.ChangeShapes Go.WideShapes Go.ChangeAt Go.RowKit
open Go.Maps (Keyed int_keyed)
def Rs(w:World)(a:Option Addr)(n:Nat)(L:List RW):Prop:=Ss 4 RW.cells w a n L
theorem Rs.below{w w':World}{a:Option Addr}{n:Nat}{L:List RW}(h:Rs w a n L)(hb:Below w.heap.size w w'):Rs w' a n L:=Ss.below h hb
structure RAt(w:World)(b o:Nat)(p:Int)(k:Nat)(x y:Int):Prop where
 c0:w.cell? ⟨b,o,none⟩=some (.int .i64 p)
 c1:w.cell? ⟨b,o+1,none⟩=some (.int .u8 (k:Nat))
 c2:w.cell? ⟨b,o+2,none⟩=some (.int .i64 x)
 c3:w.cell? ⟨b,o+3,none⟩=some (.int .i64 y)
theorem Rs.at{w:World}{a:Option Addr}{n:Nat}{L:List RW}(h:Rs w a n L)(i:Nat)(hi:i<n):∃b off r,a=some ⟨b,off,none⟩∧b<w.heap.size∧L[i]? =some r∧RAt w b (off+i*4) r.pos r.op r.a r.b:=by
 obtain⟨b,off,ha,hlt,hc⟩:=h.2 (by omega);have hl:i<L.length:=by rw[h.1];exact hi
 exact⟨b,off,L[i],ha,hlt,List.getElem?_eq_getElem hl,hc i hl 0 (by omega),hc i hl 1 (by omega),hc i hl 2 (by omega),hc i hl 3 (by omega)⟩
def A3m(n:Int):Prop:=(Lit.int .i64 n).wf=true
def A9g(L:List RW):DataW Unit:=L.foldl (fun D r=>D.put (.int .i64 r.pos) (.lit (.bool true))) (.map [])
theorem B1p{H:Type}{P:Program}{e:TypeId}(he:P.underlying e=some .bool){v:Value}{z:DataW H×List MemPlace}(h:plainElem P e v=some z):∃x,v= .bool x∧z=(.lit (.bool x),[]):=by
 unfold plainElem at h;rw[he]at h
 cases v<;>simp at h
 exact⟨_,rfl,h.symm⟩
theorem C5n(r:RW)(L:List RW)(p:Int):thereB (r::L) p=(r.pos==p||thereB L p):=rfl
theorem D7a(L:List RW)(D:DataW Unit)(hD:Maps.IsMap D)(p:Int)(z:DataW Unit):
  (L.foldl (fun D r=>D.put (.int .i64 r.pos) (.lit (.bool true))) D).atKey (.int .i64 p) z=if thereB L p=true then .lit (.bool true)else D.atKey (.int .i64 p) z:=by
 induction L generalizing D with
 |nil=>simp[thereB]
 |cons r L ih=>
  rw[List.foldl_cons,ih _ (hD.put _ _),C5n];by_cases h1:thereB L p=true
  ·simp[h1]
  ·by_cases h2:r.pos=p
   ·subst h2;rw[Maps.atKey_put_same hD (by trivial)];simp
   ·rw[Maps.atKey_put_other (by intro h;cases h;exact h2 rfl)]
    simp[h1,h2]
theorem C9t(L:List RW)(p:Int):(A9g L).atKey (.int .i64 p) (.lit (.bool false))= .lit (.bool (thereB L p)):=by
 unfold A9g;rw[D7a L _ Maps.isMap_empty]
 cases thereB L p
 ·simp;rfl
 ·simp
theorem D3f(w:World):(zeroValue 4).run Tryz.prog w= .ok (.bool false) w:=by kernel_rfl
theorem D0t{w:World}{b n:Nat}{L:List RW}(h:w.ownsMap Tryz.prog 3 (plainElem Tryz.prog 4) b n (A9g L))(p:Int)(hp:A3m p):
  (Instr.lookup 211 (.map (some b)) (.int .i64 p) false).run Tryz.prog w= .ok (.bool (thereB L p)) w:=by
 obtain⟨v,ps,hrun,hv⟩:=h.lookup (int_keyed Tryz.underlying3) Tryz.underlying211 (D3f w) (plainElem_bool Tryz.underlying4 false) (Maps.keyOf_int_mk Tryz.underlying3 hp)
 obtain⟨x,rfl,hx⟩:=B1p Tryz.underlying4 hv;rw[C9t]at hx;simp at hx;rw[hrun,hx.1]
def C8c(L:List RW)(w:World)(e:Ending)(w':World):Prop:=∃b,e= .returned (.map (some b))∧w.heap.size≤b∧w'.ownsMap Tryz.prog 3 (plainElem (H:=Unit) Tryz.prog 4) b L.length (A9g L)∧Below w.heap.size w w'
theorem C7r(w:World)(a:Option Addr)(n cap:Nat)(L:List RW)(hs:Rs w a n L)(hn:n≤65536)(hw:∀r∈L,A3m r.pos):Calls Tryz.prog 149 #[.slice a n cap] w (C8c L w):=by
 have HS:=Lib.hid hs;have HLn:=Lib.hid hs.1;have HW:=Lib.hid hw;have hmm:= @run_makeMap Tryz.prog;clear hs hw;go_enter Tryz.func149,Tryz.ntmps149
 go_wp2_with fail
 clear hmm
 go_loopg [9] n (fun gn i wr=>∃j:Nat,j≤n∧gn=n-j∧i= .int .i64 j∧Hid (wr.ownsMap Tryz.prog 3 (plainElem (H:=Unit) Tryz.prog 4) w.heap.size j (A9g (L.take j)))∧Hid (Below w.heap.size w wr))
 case atStart=>exact⟨0,by omega,by omega,by go_num,Lib.hid (World.ownsMap_made _ _ _ _),Lib.hid ((Below.refl _ _).alloc (Nat.le_refl _) _)⟩
 case round=>
  obtain⟨j,hj,rfl,rfl,HM,HB⟩:=hrel;by_cases hlt:j<n
  ·obtain⟨b,off,r,rfl,_,hr,q⟩:=(HS.out.below HB.out).at j hlt;obtain⟨q0,q1,q2,q3⟩:=q;have hrp:=HW.out r (List.mem_of_getElem? hr)
   have HN:=Lib.hid (show A9g (L.take (j+1))=(A9g (L.take j)).put (.int .i64 r.pos) (.lit (.bool true)) by
    have hjl:=(List.getElem?_eq_some_iff.1 hr).1;have he:=(List.getElem?_eq_some_iff.1 hr).2;unfold A9g;rw[List.take_succ_eq_append_getElem hjl,List.foldl_append,he];rfl)
   have j1:(j:Int)<n:=by omega
   clear hr;obtain⟨p,k,x,y⟩:=r;simp only at q0 q1 q2 q3 hrp HN
   obtain⟨w',hrun,hown,hturn⟩:=(HM.out.alloc (.cells #[.int .i64 p,.int .u8 (k:Nat),.int .i64 x,.int .i64 y] 118)).store (int_keyed Tryz.underlying3) Tryz.underlying211 (by unfold maxLen;omega) (val:= .bool true) (Maps.keyOf_int_mk Tryz.underlying3 hrp) (plainElem_bool Tryz.underlying4 true)
   have HM2:=Lib.hid hown
   have HB2:=Lib.hid ((HB.out.alloc HB.out.size (.cells #[.int .i64 p,.int .u8 (k:Nat),.int .i64 x,.int .i64 y] 118)).grown hturn.grown (Nat.le_trans HB.out.size (by simp)) (fun m hm=>by cases hm;exact Nat.le_refl _))
   clear hown hturn hrp
   go_wp2_with fail
   go_roundg (n-(j+1))
   case measure=>omega
   case rel=>exact⟨j+1,by omega,rfl,by go_num,Lib.hid (by rw[HN.out];exact HM2.out),HB2⟩
  ·obtain rfl:j=n:=by omega
   have HE:=Lib.hid HM.out;rw[List.take_of_length_le (by rw[HLn.out];exact Nat.le_refl _)]at HE
   go_wp2_with fail
   go_ret;exact⟨_,rfl,Nat.le_refl _,by rw[HLn.out];exact HE.out,HB.out⟩
def D6n(L:List RW)(w:World)(e:Ending)(w':World):Prop:=e= .returned (.bool (A7y L))∧Below w.heap.size w w'
theorem C5c{L:List RW}{r:RW}(hr:r∈L)(h:(!(A0q r.op==7)||thereB L r.a)=false):A7y L=false:=by
 unfold A7y;rw[List.all_eq_false];exact⟨r,hr,by rw[h];decide⟩
theorem B8r{L:List RW}(h:∀(k:Nat) r,L[k]? =some r→(!(A0q r.op==7)||thereB L r.a)=true):A7y L=true:=by
 unfold A7y;rw[List.all_eq_true];intro r hr;obtain⟨k,hk,rfl⟩:=List.getElem_of_mem hr;exact h k _ (List.getElem?_eq_getElem hk)
theorem C4h(w:World)(a:Option Addr)(n cap:Nat)(L:List RW)(hs:Rs w a n L)(hn:n≤65536)(hw:∀r∈L,A3m r.pos∧A3m r.a∧r.op<256):Calls Tryz.prog 101 #[.slice a n cap,.agg (A8g A0q)] w (D6n L w):=by
 have HS:=Lib.hid hs;have HLn:=Lib.hid hs.1;have HW:=Lib.hid hw
 have hpl:=C7r (w.alloc (.cells (A8g A0q) 164)) a n cap L (hs.below ((Below.refl _ _).alloc (Nat.le_refl _) _)) hn (fun r hr=>(hw r hr).1);have HP:=Lib.hid hpl;clear hs hw hpl
 go_enter Tryz.func101,Tryz.ntmps101
 go_wp2_with fail
 refine HP.out.mono ?_;rintro e w1 ⟨b,rfl,hb0,hm1,hb1⟩;have hT:=heap_alloc_last w (.cells (A8g A0q) 164);rw[←hb1.block _ (by simp)]at hT;have HT:=Lib.hid hT;have HM:=Lib.hid hm1
 have HB1:=Lib.hid (((Below.refl w.heap.size w).alloc (Nat.le_refl _) (.cells (A8g A0q) 164)).trans (hb1.mono (by simp)));clear hb0 hm1 hb1 hT HP
 go_wp2_with fail
 go_loopg [12] n (fun gn i wr=>∃j:Nat,j≤n∧gn=n-j∧i= .int .i64 j∧Hid (∀(k:Nat) r,k<j→L[k]? =some r→(!(A0q r.op==7)||thereB L r.a)=true)∧Hid (Below w1.heap.size w1 wr))
 case atStart=>exact⟨0,by omega,by omega,by go_num,Lib.hid (fun k r h=>by omega),Lib.hid (Below.refl _ _)⟩
 case round=>
  obtain⟨j,hj,rfl,rfl,HG,HB⟩:=hrel;have HBB:=Lib.hid (HB1.out.trans (HB.out.mono HB1.out.size));by_cases hlt:j<n
  ·obtain⟨bb,off,r,rfl,_,hr,q⟩:=(HS.out.below HBB.out).at j hlt;obtain⟨q0,q1,q2,q3⟩:=q;obtain⟨_,hra,hop⟩:=HW.out r (List.mem_of_getElem? hr)
   have hT:wr.heap[w.heap.size]? =some (.cells (A8g A0q) 164):=by rw[HB.out.block _ (Array.getElem?_eq_some_iff.1 HT.out).1];exact HT.out
   have tc:wr.cell? ⟨w.heap.size,r.op,none⟩=some (.int .u8 (A0q r.op:Nat)):=by rw[cell_of_row wr _ _ _ _ _ hT];exact B0u _ _ hop
   have hk:=D0t (((HM.out.kept (row:=none) ⟨HB.out.os,HB.out.tape,HB.out.output,HB.out.size,fun k hk _=>HB.out.block k hk⟩ (by simp)).alloc (.cells #[.int .i64 r.pos,.int .u8 (r.op:Nat),.int .i64 r.a,.int .i64 r.b] 118))) r.a hra
   have HBad:=Lib.hid (C5c (L:=L) (List.mem_of_getElem? hr))
   have HNx:=Lib.hid (show(!(A0q r.op==7)||thereB L r.a)=true→∀(k:Nat) r,k<j+1→L[k]? =some r→(!(A0q r.op==7)||thereB L r.a)=true from fun h k r' hk hr'=>by
    rcases Nat.lt_or_ge k j with h1|h1
    ·exact HG.out k r' h1 hr'
    ·obtain rfl:k=j:=by omega
     rw[hr]at hr'
     cases hr'
     exact h)
   have j1:(j:Int)<n:=by omega
   have o1:(r.op:Int)<256:=by omega
   have f9:=A4j r.op;obtain⟨p,o,x,y⟩:=r;simp only at q0 q1 q2 q3 hra hop hT tc hk HBad HNx o1 f9;generalize thereB L x=th at*;generalize A0q o=f at*
   have hl0:w.heap.size<wr.heap.size:=(Array.getElem?_eq_some_iff.1 hT).1;clear hr hT hra
   have HA:=Lib.hid (HB.out.alloc HB.out.size (.cells #[.int .i64 p,.int .u8 (o:Nat),.int .i64 x,.int .i64 y] 118));by_cases h7:f=7
   ·subst h7
    cases th
    ·have HR:=Lib.hid (HBad.out rfl)
     go_wp2_with fail
     go_ret;exact⟨by rw[HR.out];rfl,HB1.out.trans (HA.out.mono HB1.out.size)⟩
    ·have HQ:=Lib.hid (HNx.out rfl)
     go_wp2_with fail
     go_roundg (n-(j+1))
     case measure=>omega
     case rel=>exact⟨j+1,by omega,rfl,by go_num,HQ,HA⟩
   ·have e7:((f:Int)==7)=false:=by simp;omega
    have HQ:=Lib.hid (HNx.out (by simp[h7]));clear h7
    go_wp2_with fail
    go_roundg (n-(j+1))
    case measure=>omega
    case rel=>exact⟨j+1,by omega,rfl,by go_num,HQ,HA⟩
  ·obtain rfl:j=n:=by omega
   have HR:=Lib.hid (B8r (L:=L) (fun k r hk=>HG.out k r (by have:=(List.getElem?_eq_some_iff.1 hk).1;rw[HLn.out]at this;exact this) hk))
   go_wp2_with fail
   go_ret;exact⟨by rw[HR.out];rfl,HBB.out⟩
end
end Go.Proofs.YtclpkipaehpkdaaGreatDoor
