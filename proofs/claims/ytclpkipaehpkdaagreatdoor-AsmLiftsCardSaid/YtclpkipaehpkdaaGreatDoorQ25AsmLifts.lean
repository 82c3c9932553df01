/- asm: own texts, merged (wip/merge3.py). No condition. -/
import Derived.Test.YtclpkipaehpkdaaGreatDoorQ11AsmLifts
import Derived.Test.YtclpkipaehpkdaaGreatDoorQ19AsmLifts
import Derived.Test.YtclpkipaehpkdaaGreatDoorQ10AsmLifts
import Derived.Test.YtclpkipaehpkdaaGreatDoorQ06AsmLifts
import Derived.Maps.OwnSet
import Derived.DeepKeys4
import Derived.StillTailTactics
import Derived.Deep.LoopGhost
import Derived.Deep.DeepCutAuto
import Derived.Test.YtclpkipaehpkdaaGreatDoorQ12AsmLifts
import Derived.Test.YtclpkipaehpkdaaGreatDoorQ00AsmLifts
import Derived.Test.YtclpkipaehpkdaaGreatDoorQ01AsmLifts
set_option linter.unusedVariables false
set_option linter.unusedSimpArgs false
set_option maxRecDepth 100000
set_option maxHeartbeats 64000000
namespace Go.Proofs.YtclpkipaehpkdaaGreatDoor
section
open Go.ChangeShapes Go.WideShapes Go.ChangeAt Go.RowKit
def eqK(c k:KV):Bool:=decide (k.tag=c.tag∧k.a=c.a∧k.b=c.b∧k.n=c.n∧k.s=c.s)
theorem B0w{c k:KV}:eqK c k=true↔k=c:=by
 unfold eqK;rw[decide_eq_true_iff];obtain⟨a1,a2,a3,a4,a5⟩:=k;obtain⟨b1,b2,b3,b4,b5⟩:=c;simp[KV.mk.injEq]
def B7r(l:List KV)(c:KV):Option Nat:=l.findIdx? (eqK c)
def A9q(l:List KV)(c:KV):List KV:=(l++[c])++(if c.tag=5 then [kz]else [])
structure LW where
 l:List KV
 e:Int
def LW.need(s:LW)(ok:Bool)(k:Int):LW:=⟨s.l,A2w s.e ok k⟩
def LW.put(s:LW)(c:KV):LW×Nat:=match B7r s.l c with
 |some i=>(s,i)
 |none=>((⟨A9q s.l c,s.e⟩:LW).need (decide ((A9q s.l c).length≤1024)) 9,s.l.length)
def LW.text(s:LW)(t:List UInt8):LW×Nat:=s.put ⟨1,0,0,0,t⟩
def LW.cls(s:LW)(t:List UInt8)(arr:Bool):LW×Nat:=
 (((s.need (classB t||(arr&&A2z t)) 8).text t).1).put ⟨7,(((s.need (classB t||(arr&&A2z t)) 8).text t).2:Nat),0,0,[]⟩
def LW.member(s:LW)(x:IN)(tag:Int)(p:List UInt8→Bool):LW×Nat:=
 let c:=(s.need (A7v x.nm&&p x.ds) 8).cls x.cl false
 let n:=c.1.text x.nm
 let d:=n.1.text x.ds
 let b:=d.1.put ⟨12,(n.2:Nat),(d.2:Nat),0,[]⟩
 b.1.put ⟨tag,(c.2:Nat),(b.2:Nat),0,[]⟩
def A8a(n:Int):Bool:=decide (-2147483648≤n∧n≤2147483647)
def LW.con(s:LW)(x:IN):LW×Nat:=
 if x.ds=[73]∧x.op=18∧x.tx=[]then(s.need (A8a x.n) 8).put ⟨3,0,0,x.n,[]⟩
 else if x.ds=[83]∧x.op=18∧x.n=0 then((s.text x.tx).1).put ⟨8,((s.text x.tx).2:Nat),0,0,[]⟩
 else if x.ds=[74]∧x.op=20∧x.tx=[]then s.put ⟨5,0,0,x.n,[]⟩
 else(s.need false 8,0)
def B6y(x:IN):Bool:=decide ((x.m=0∨A0q x.op=8)∧x.cl=[]∧x.nm=[]∧x.ds=[]∧x.tx=[])
def A5t(x:IN):Bool:=decide (x.n=0∧x.m=0∧x.tx=[])
def B8p(x:IN):Bool:=decide (x.n=0∧x.m=0∧x.nm=[]∧x.ds=[]∧x.tx=[])
def LW.wide(s:LW)(x:IN):LW×Nat:=
 if A7f x.op then(s.need (A5t x) 8).member x 9 typeB
 else if B0k x.op then(s.need (A5t x) 8).member x 10 A3x
 else(s.need (B8p x) 8).cls x.cl (decide (x.op≠187))
def A4e(n:Int):Int:=(n+2147483648)%4294967296-2147483648
def LW.small(s:LW)(n:Int):LW×Int:=(s.need (A8a n) 8,A4e n)
def LW.raw(s:LW)(p:Nat)(x:IN):LW×RW:=
 if x.op=18∨x.op=20 then
  let c:=(s.need (decide (x.cl=[]∧x.nm=[]∧x.m=0)) 8).con x
  (c.1.need (decide (A0q x.op≠5)||decide (c.2≤255)) 9,⟨p,x.op,(c.2:Nat),0⟩)
 else if A0q x.op=6 then((s.wide x).1,⟨p,x.op,((s.wide x).2:Nat),0⟩)
 else if A0q x.op=0 then(s.need false 8,⟨p,x.op,0,0⟩)
 else(((s.need (B6y x) 8).small x.n).1,⟨p,x.op,A4e x.n,x.m⟩)
def D1k(x:IN):Nat:=A2m (A0q x.op)
def LW.raws(s:LW)(p:Nat):List IN→LW×List RW
 |[]=>(s,[])
 |x::l=>(((s.raw p x).1.raws (p+D1k x) l).1,(s.raw p x).2::((s.raw p x).1.raws (p+D1k x) l).2)
def B2p(l:List IN)(n:Nat):Nat:=((l.take n).map D1k).sum
def inB(l:List IN)(n:Int):Bool:=decide (0≤n∧n<l.length)
def A9n(l:List IN)(x:IN)(r:RW):RW:=if A0q x.op=7∧inB l x.n=true then{r with a:=(B2p l x.n.toNat:Nat)}else r
def LW.goes(s:LW)(l:List IN):List IN→LW
 |[]=>s
 |x::k=>(if A0q x.op=7 then s.need (inB l x.n) 2 else s).goes l k
def B2f(l:List IN)(rs:List RW):List RW:=(l.zip rs).map fun p=>A9n l p.1 p.2
def LW.code(s:LW)(l:List IN):LW×List UInt8:=
 let c:=s.raws 0 l
 let e:=A4b (B2f l c.2)
 ((c.1.goes l l).need (decide (e.1=0)) e.1,e.2)
def LW.slot(s:LW)(t:List UInt8):LW×KS:=
 if t=[84]then(s,⟨0,0⟩)else if t=[73]then(s,⟨1,0⟩)else if t=[74]then(s,⟨4,0⟩)else if t=[78]then(s,⟨5,0⟩)
 else if B8t t then((s.cls (D1m t) false).1,⟨7,((s.cls (D1m t) false).2:Nat)⟩)
 else(((s.need (A2z t) 8).cls t true).1,⟨7,(((s.need (A2z t) 8).cls t true).2:Nat)⟩)
def LW.slots(s:LW):List (List UInt8)→LW×List KS
 |[]=>(s,[])
 |t::l=>(((s.slot t).1.slots l).1,(s.slot t).2::((s.slot t).1.slots l).2)
def A3j(st:Bool):Int:=if st then 8 else 0
def LW.place(s:LW)(l:List IN)(n most:Int):LW×Int:=if n<0∨most<n then(s.need false 2,0)else(s,(B2p l n.toNat:Nat))
def LW.trap(s:LW)(l:List IN)(t:UT):LW×KT:=
 let a:=s.place l t.fr (l.length-1)
 let b:=a.1.place l t.tt l.length
 let c:=b.1.place l t.pl (l.length-1)
 if t.cl=[]then(c.1,⟨a.2,b.2,c.2,0⟩)else((c.1.cls t.cl false).1,⟨a.2,b.2,c.2,((c.1.cls t.cl false).2:Nat)⟩)
def LW.traps(s:LW)(l:List IN):List UT→LW×List KT
 |[]=>(s,[])
 |t::k=>(((s.trap l t).1.traps l k).1,(s.trap l t).2::((s.trap l t).1.traps l k).2)
def LW.map(s:LW)(l:List IN)(m:UP):LW×KP:=
 let a:=s.place l m.pl (l.length-1)
 let b:=a.1.slots m.loc
 let c:=b.1.slots m.stk
 (c.1,⟨a.2,none,0,0,b.2,none,0,0,c.2⟩)
def LW.maps(s:LW)(l:List IN):List UP→LW×List KP
 |[]=>(s,[])
 |t::k=>(((s.map l t).1.maps l k).1,(s.map l t).2::((s.map l t).1.maps l k).2)
def LW.method(s:LW)(m:UM):LW×KM:=
 let n:=(s.need (A7v m.nm&&A3x m.ds) 8).text m.nm
 let d:=n.1.text m.ds
 let c:=(d.1.text A7u).1
 let c2:=if m.maps=[]then c else(c.text B6c).1
 let k:=c2.code m.code
 let t:=k.1.traps m.code m.traps
 let p:=t.1.maps m.code m.maps
 (p.1,⟨A3j m.st,(n.2:Nat),(d.2:Nat),m.sk,m.lo,none,0,0,k.2,none,0,0,t.2,none,0,0,p.2⟩)
def LW.methods(s:LW):List UM→LW×List KM
 |[]=>(s,[])
 |t::k=>(((s.method t).1.methods k).1,(s.method t).2::((s.method t).1.methods k).2)
def LW.field(s:LW)(f:UF):LW×KD:=
 let n:=(s.need (A7v f.nm&&typeB f.ds) 8).text f.nm
 let d:=n.1.text f.ds
 (d.1,⟨A3j f.st,(n.2:Nat),(d.2:Nat)⟩)
def LW.fields(s:LW):List UF→LW×List KD
 |[]=>(s,[])
 |t::k=>(((s.field t).1.fields k).1,(s.field t).2::((s.field t).1.fields k).2)
def LW.consts1(s:LW):List IN→LW
 |[]=>s
 |x::l=>(if x.op=18 then(s.con x).1 else s).consts1 l
def LW.consts(s:LW):List UM→LW
 |[]=>s
 |m::l=>(s.consts1 m.code).consts l
def B5a(u:UU):LW×KF:=
 let s:=(⟨[kz],0⟩:LW).consts u.methods
 let t:=s.cls u.nm false
 let p:=if u.su=[]then(t.1,0)else t.1.cls u.su false
 let f:=p.1.fields u.fields
 let m:=f.1.methods u.methods
 (m.1,⟨none,0,0,m.1.l,(t.2:Nat),(p.2:Nat),none,0,0,f.2,none,0,0,m.2⟩)
def D3d(u:UU):Int:=if(B5a u).1.e=0 then(if A2i (B5a u).2 then 0 else 8)else(B5a u).1.e
theorem D1b(l:List KV)(c:KV):(A9q l c).length≤l.length+2:=by
 unfold A9q;split<;>simp
theorem A8v(s:LW)(c:KV):(s.put c).1.l.length≤s.l.length+2:=by
 unfold LW.put;split
 ·simp
 ·exact D1b _ _
theorem D0y{l:List KV}{c:KV}{i:Nat}(h:B7r l c=some i):i<l.length:=(List.findIdx?_eq_some_iff_getElem.1 h).1
theorem B0r(s:LW)(c:KV):(s.put c).2<(s.put c).1.l.length:=by
 unfold LW.put;split
 ·next h=>exact D0y h
 ·show s.l.length<(A9q s.l c).length;unfold A9q;simp
theorem B3j(s:LW)(c:KV):(s.put c).2≤s.l.length:=by
 unfold LW.put;split
 ·next h=>exact Nat.le_of_lt (D0y h)
 ·exact Nat.le_refl _
theorem A2h(s:LW)(t:List UInt8):(s.text t).1.l.length≤s.l.length+2:=A8v _ _
theorem A7r(s:LW)(t:List UInt8)(arr:Bool):(s.cls t arr).1.l.length≤s.l.length+4:=by
 unfold LW.cls;have h1:=A2h (s.need (classB t||(arr&&A2z t)) 8) t
 have h2:=A8v ((s.need (classB t||(arr&&A2z t)) 8).text t).1 ⟨7,(((s.need (classB t||(arr&&A2z t)) 8).text t).2:Nat),0,0,[]⟩
 have h3:(s.need (classB t||(arr&&A2z t)) 8).l=s.l:=rfl;rw[h3]at h1;omega
theorem B6d(s:LW)(x:IN)(tag:Int)(p:List UInt8→Bool):(s.member x tag p).1.l.length≤s.l.length+12:=by
 unfold LW.member;dsimp only;have h0:(s.need (A7v x.nm&&p x.ds) 8).l=s.l:=rfl;have h1:=A7r (s.need (A7v x.nm&&p x.ds) 8) x.cl false;rw[h0]at h1
 generalize(s.need (A7v x.nm&&p x.ds) 8).cls x.cl false=c at*;have h2:=A2h c.1 x.nm;generalize c.1.text x.nm=n at*;have h3:=A2h n.1 x.ds;generalize n.1.text x.ds=d at*
 have h4:=A8v d.1 ⟨12,(n.2:Nat),(d.2:Nat),0,[]⟩;generalize d.1.put ⟨12,(n.2:Nat),(d.2:Nat),0,[]⟩=b at*;have h5:=A8v b.1 ⟨tag,(c.2:Nat),(b.2:Nat),0,[]⟩
 show(b.1.put ⟨tag,(c.2:Nat),(b.2:Nat),0,[]⟩).1.l.length≤_;omega
theorem B7d(s:LW)(x:IN):(s.con x).1.l.length≤s.l.length+4:=by
 unfold LW.con;split
 ·have h:=A8v (s.need (A8a x.n) 8) ⟨3,0,0,x.n,[]⟩;have h0:(s.need (A8a x.n) 8).l=s.l:=rfl;rw[h0]at h;omega
 ·split
  ·have h1:=A2h s x.tx;have h2:=A8v (s.text x.tx).1 ⟨8,((s.text x.tx).2:Nat),0,0,[]⟩;omega
  ·split
   ·have h:=A8v s ⟨5,0,0,x.n,[]⟩;omega
   ·show s.l.length≤_;omega
theorem C5b(s:LW)(x:IN):(s.wide x).1.l.length≤s.l.length+12:=by
 unfold LW.wide;split
 ·exact B6d (s.need (A5t x) 8) x 9 typeB
 ·split
  ·exact B6d (s.need (A5t x) 8) x 10 A3x
  ·have h:=A7r (s.need (B8p x) 8) x.cl (decide (x.op≠187));have h0:(s.need (B8p x) 8).l=s.l:=rfl;rw[h0]at h;omega
theorem D7g(s:LW)(p:Nat)(x:IN):(s.raw p x).1.l.length≤s.l.length+12:=by
 unfold LW.raw;split
 ·have h:=B7d (s.need (decide (x.cl=[]∧x.nm=[]∧x.m=0)) 8) x;have h0:(s.need (decide (x.cl=[]∧x.nm=[]∧x.m=0)) 8).l=s.l:=rfl;rw[h0]at h
  show((s.need (decide (x.cl=[]∧x.nm=[]∧x.m=0)) 8).con x).1.l.length≤_;omega
 ·split
  ·exact C5b s x
  ·split
   ·show s.l.length≤_;omega
   ·show s.l.length≤_;omega
theorem D3y(s:LW)(t:List UInt8):(s.slot t).1.l.length≤s.l.length+4:=by
 unfold LW.slot;split
 ·simp
 split
 ·simp
 split
 ·simp
 split
 ·simp
 split
 ·exact A7r _ _ _
 ·exact A7r (s.need (A2z t) 8) t true
end
section
open Go.ChangeShapes Go.WideShapes Go.ChangeAt Go.RowKit Go.Maps
abbrev B3x:=92
abbrev A6h:=61
abbrev D7j:=90
def E0s(c:KV):Lit:= .string (keyBytes [.int .i64 c.tag,.int .i64 c.a,.int .i64 c.b,.int .i64 c.n,.string c.s])
structure KOk(c:KV):Prop where
 t:A3m c.tag
 a:A3m c.a
 b:A3m c.b
 n:A3m c.n
 s:c.s.length≤1099511627776
theorem D8c:A6h<Tryz.prog.types.size:=by
 have h:Nat.ble (A6h+1) Tryz.prog.types.size=true:=by kernel_rfl
 generalize Tryz.prog.types.size=n at*;exact Nat.lt_of_succ_le (Nat.le_of_ble_eq_true h)
theorem D7v:Tryz.prog.keyTypeAt 2 A6h=true:=by kernel_rfl
theorem D3q:laidOutB Tryz.prog=true:=by kernel_rfl
theorem B4b:Keyed Tryz.prog A6h:=Keyed.of_law (deep_law_laid D3q (m:=2) (by omega) D8c D7v (by rw[Tryz.underlying61]))
theorem B2h{c:KV}(h:KOk c):keyOf Tryz.prog A6h (.agg c.cells.toArray)=some (E0s c):=by
 have hi:∀(d:Nat) (x:Int),A3m x→Tryz.prog.keyLits (d+1) 3 [.int .i64 x]=some [.int .i64 x]:=fun d x hx=>by
  unfold Program.keyLits;rw[Tryz.underlying3];simp only;rw[if_pos ⟨trivial,hx⟩]
 have hi2:∀(d:Nat) (x:Int),A3m x→Tryz.prog.keyLits (d+1) 2 [.int .i64 x]=some [.int .i64 x]:=fun d x hx=>by
  unfold Program.keyLits;rw[Tryz.underlying2];simp only;rw[if_pos ⟨trivial,hx⟩]
 have hs:∀(d:Nat) (x:List UInt8),x.length≤1099511627776→Tryz.prog.keyLits (d+1) 9 [.string ⟨x.toArray⟩]=some [.string x]:=fun d x hx=>by
  unfold Program.keyLits;rw[Tryz.underlying9];simp only;rw[if_pos (by show x.toArray.size≤maxLen;rw[List.size_toArray];unfold maxLen;omega)]
 have h5:Tryz.prog.cellsOf A6h=5:=by kernel_rfl
 have h1:Tryz.prog.cellsOf 3=1:=by kernel_rfl
 have h2:Tryz.prog.cellsOf 9=1:=by kernel_rfl
 have h3:Tryz.prog.cellsOf 2=1:=by kernel_rfl
 have hl:∀d,Tryz.prog.keyLits (d+1+1) A6h c.cells=some [.int .i64 c.tag,.int .i64 c.a,.int .i64 c.b,.int .i64 c.n,.string c.s]:=fun d=>by
  unfold Program.keyLits;rw[Tryz.underlying61];simp only;rw[if_pos ⟨h5.symm,by kernel_rfl⟩];simp[KV.cells,h1,h2,h3,hi d _ h.t,hi d _ h.a,hi d _ h.b,hi2 d _ h.n,hs d _ h.s]
 have hf:Value.formed Tryz.prog A6h (.agg c.cells.toArray)=true:=by
  unfold Value.formed;rw[Tryz.underlying61];simp only;rw[h5];rfl
 obtain⟨d,hd⟩:∃d,Tryz.prog.types.size=d+1:=Nat.exists_eq_succ_of_ne_zero (fun e=>by
  have:Nat.beq Tryz.prog.types.size 0=false:=by kernel_rfl
  rw[e]at this
  cases this)
 unfold keyOf;rw[Tryz.underlying61];simp only;rw[hf,show Tryz.prog.keyType A6h=true by kernel_rfl,hd]
 show(if _ then(Tryz.prog.keyLits (d+1+1) A6h c.cells).map _ else none)=_
 rw[hl d];rfl
def C0q:Option Obj→Prop
 |some (.cells _ t _)=>t≠A6h∧t≠B3x
 |some (.map _ _)=>False
 |_=>True
structure A0x(B:Nat)(w w':World):Prop where
 os:w'.os=w.os
 tape:w'.tape=w.tape
 output:w'.output=w.output
 size:w.heap.size≤w'.heap.size
 block:∀k,k<w.heap.size→(k<B∨C0q w.heap[k]?)→w'.heap[k]? =w.heap[k]?
theorem A0x.refl(B:Nat)(w:World):A0x B w w:=⟨rfl,rfl,rfl,Nat.le_refl _,fun _ _ _=>rfl⟩
theorem A0x.trans{B:Nat}{w w1 w2:World}(h:A0x B w w1)(k:A0x B w1 w2):A0x B w w2:=
 ⟨k.os.trans h.os,k.tape.trans h.tape,k.output.trans h.output,Nat.le_trans h.size k.size,fun i hi hg=>by
  have h1:=h.block i hi hg;rw[k.block i (Nat.lt_of_lt_of_le hi h.size) (by rw[h1];exact hg),h1]⟩
theorem A0x.of{B:Nat}{w w1:World}(h:Below w.heap.size w w1):A0x B w w1:=⟨h.os,h.tape,h.output,h.size,fun k hk _=>h.block k hk⟩
theorem A0x.grown{B:Nat}{w w1:World}{row:Option Nat}(h:w.grownBy w1 row)(hr:∀k,row=some k→k<w.heap.size→B≤k∧¬C0q w.heap[k]?):A0x B w w1:=
 ⟨h.os,h.tape,h.output,h.size,fun k hk hg=>h.block k hk (fun e=>by
  obtain⟨h1,h2⟩:=hr k e.symm hk
  rcases hg with hg|hg
  ·omega
  ·exact h2 hg)⟩
theorem A0x.set{B:Nat}{w:World}{g:Nat}(h:B≤g∧¬C0q w.heap[g]?)(o:Nat)(v:Value):A0x B w (w.setCell ⟨g,o,none⟩ v):=
 ⟨rfl,rfl,rfl,by unfold World.setCell;simp,fun k hk hq=>by
  unfold World.setCell
  have hne:¬g=k:=by
   rintro rfl
   rcases hq with h1|h1
   ·omega
   ·exact h.2 h1
  simp[Array.getElem?_modify,hne]⟩
theorem A0x.below{B:Nat}{w0 w w':World}(h:A0x B w w')(hb:Below B w0 w)(hB:B≤w0.heap.size):Below B w0 w':=
 ⟨h.os.trans hb.os,h.tape.trans hb.tape,h.output.trans hb.output,Nat.le_trans hb.size h.size,fun k hk=>by
  rw[h.block k (Nat.lt_of_lt_of_le (Nat.lt_of_lt_of_le hk hB) hb.size) (.inl hk)];exact hb.block k hk⟩
theorem A0x.row{B:Nat}{w w':World}(h:A0x B w w'){g:Nat}{cs:Array Value}{t:TypeId}{fr:Nat×Nat}(hg:w.heap[g]? =some (.cells cs t fr))(h1:t≠A6h)(h2:t≠B3x):w'.heap[g]? =some (.cells cs t fr):=by
 rw[h.block g (Array.getElem?_eq_some_iff.1 hg).1 (.inr (by rw[hg];exact⟨h1,h2⟩))];exact hg
theorem A0x.own{B:Nat}{w w':World}{B':Nat}{e:TypeId}{size:Nat}{v:Value}{n:Nat}{xs:List Value}(h:w.ownsRow B' e size v n xs)(k:A0x B w w')(h1:e≠A6h)(h2:e≠B3x):w'.ownsRow B' e size v n xs:=by
 refine⟨h.1,?_⟩
 rcases h.2 with⟨h1,h2⟩|⟨b,cap,cur,hv,hb,hc,r⟩
 ·exact .inl ⟨h1,h2⟩
 ·exact .inr ⟨b,cap,cur,hv,hb,k.row hc h1 h2,r⟩
theorem A0x.vw{B:Nat}{w w':World}(h:A0x B w w')(hv:VW w)(h0:0<B):VW w':=by
 obtain⟨m,hm⟩:=hv;refine⟨m,?_⟩
 have hlt:0<w.heap.size:=by
  rcases Nat.eq_zero_or_pos w.heap.size with h1|h1
  ·exfalso;have:w.heap[0]? =none:=Array.getElem?_eq_none (by omega);simp[World.cell?,this]at hm
  ·exact h1
 rw[←hm];unfold World.cell?;rw[h.block 0 hlt (.inl h0)]
def B3k(w:World)(b:Nat)(L:List KV):Prop:=
 ∃D,w.ownsMap Tryz.prog A6h (plainElem (H:=Unit) Tryz.prog 3) b L.length D∧∀c,KOk c→c.tag≠0→∀z,D.atKey (E0s c) z=(match B7r L c with|some i=> .lit (.int .i64 (i:Nat))|none=>z)
theorem B3k.lt{w:World}{b:Nat}{L:List KV}(h:B3k w b L):b<w.heap.size:=by obtain⟨D,h,_⟩:=h;exact h.lt
theorem B3k.kept{w w':World}{b:Nat}{L:List KV}{row:Option Nat}(h:B3k w b L)(hg:w.grownBy w' row)(hne:some b≠row):B3k w' b L:=by
 obtain⟨D,h,hd⟩:=h;exact⟨D,h.kept hg hne,hd⟩
theorem B3k.setCell{w:World}{b:Nat}{L:List KV}(h:B3k w b L){a:Addr}(ha:b≠a.block)(u:Value):B3k (w.setCell a u) b L:=by
 obtain⟨D,h,hd⟩:=h;exact⟨D,h.setCell ha u,hd⟩
theorem B3k.below{w w':World}{b:Nat}{L:List KV}(h:B3k w b L)(hb:Below w.heap.size w w'):B3k w' b L:=h.kept (row:=none) ⟨hb.os,hb.tape,hb.output,hb.size,fun k hk _=>hb.block k hk⟩ (by simp)
structure LoX(w:World)(B g:Nat)(s:LW)(a:Option Addr)(cap b:Nat):Prop where
 k:C7w w g (.slice a s.l.length cap) (.map (some b)) (.int .i64 s.e) B3x
 o:w.ownsRow B A6h 5 (.slice a s.l.length cap) s.l.length (s.l.flatMap KV.cells)
 m:B3k w b s.l
 bB:B≤b
 gB:B≤g
 B0:0<B
 vw:VW w
def LoS(w:World)(B g:Nat)(s:LW):Prop:=∃a cap b,LoX w B g s a cap b
theorem LoX.bg{w:World}{B g:Nat}{s:LW}{a:Option Addr}{cap b:Nat}(h:LoX w B g s a cap b):b≠g:=by
 rintro rfl;obtain⟨D,⟨es,cl,hm,_⟩,_⟩:=h.m;have:=h.k;unfold C7w at this;rw[hm]at this
 cases this
theorem LoX.nk{w:World}{B g:Nat}{s:LW}{a:Option Addr}{cap b:Nat}(h:LoX w B g s a cap b):B≤g∧¬C0q w.heap[g]? :=by
 refine⟨h.gB,?_⟩;have:=h.k;unfold C7w at this;rw[this];exact fun hh=>hh.2 rfl
theorem LoX.nm{w:World}{B g:Nat}{s:LW}{a:Option Addr}{cap b:Nat}(h:LoX w B g s a cap b):B≤b∧¬C0q w.heap[b]? :=by
 refine⟨h.bB,?_⟩;obtain⟨D,⟨es,cl,hm,_⟩,_⟩:=h.m;rw[hm];exact fun hh=>hh
theorem LoX.below{w w':World}{B g:Nat}{s:LW}{a:Option Addr}{cap b:Nat}(h:LoX w B g s a cap b)(hb:Below w.heap.size w w'):LoX w' B g s a cap b:=
 ⟨h.k.below hb,A1n h.o hb,h.m.below hb,h.bB,h.gB,h.B0,h.vw.below hb⟩
theorem LoS.below{w w':World}{B g:Nat}{s:LW}(h:LoS w B g s)(hb:Below w.heap.size w w'):LoS w' B g s:=by
 obtain⟨a,cap,b,h⟩:=h;exact⟨a,cap,b,h.below hb⟩
theorem LoX.lt{w:World}{B g:Nat}{s:LW}{a:Option Addr}{cap b:Nat}(h:LoX w B g s a cap b):g<w.heap.size:=h.k.box.lt
theorem LoS.lt{w:World}{B g:Nat}{s:LW}(h:LoS w B g s):g<w.heap.size:=by
 obtain⟨a,cap,b,h⟩:=h;exact h.lt
theorem LoX.set2{w:World}{B g:Nat}{s:LW}{a:Option Addr}{cap b:Nat}(h:LoX w B g s a cap b)(e2:Int):LoX (w.setCell ⟨g,2,none⟩ (.int .i64 e2)) B g ⟨s.l,e2⟩ a cap b:=
 ⟨A1d h.k 2 _,A0z h.o (A3v h.k 2 _) (by decide),h.m.setCell h.bg _,h.bB,h.gB,h.B0,(A0x.set h.nk 2 _).vw h.vw h.B0⟩
def B2r(v:Value)(B g:Nat)(s:LW)(w:World)(e:Ending)(w':World):Prop:=e= .returned v∧LoS w' B g s∧A0x B w w'
theorem D7u:StE 22 A6h (.agg #[.int .i64 0,.int .i64 0,.int .i64 0,.int .i64 0,.string ⟨#[]⟩]) 5 48:=⟨by kernel_rfl,by kernel_rfl,rfl⟩
theorem A0y(w:World)(B g:Nat)(s:LW)(ok:Bool)(k:Int)(h:LoS w B g s):
  Calls Tryz.prog 33 #[.pointer (some ⟨g,0,none⟩),.bool ok,.int .i64 k] w (B2r (.tuple #[]) B g (s.need ok k) w):=by
 obtain⟨a,cap,b,hx⟩:=h;have H:=Lib.hid hx;obtain⟨c0,c1,c2,f0,f1,f2,lt⟩:=hx.k.box;have HN:s.need ok k=⟨s.l,A2w s.e ok k⟩:=rfl;rw[HN];clear hx HN;generalize hE:A2w s.e ok k=E
 cases ok
 ·by_cases h0:s.e=0
  ·have e0:(s.e==0)=true:=by simpa using h0
   have HE:=Lib.hid (show E=k by rw[←hE];unfold A2w;rw[if_pos ⟨rfl,h0⟩]);clear hE h0;go_enter Tryz.func33,Tryz.ntmps33
   go_wp2_with fail
   go_end0;rw[HE.out];exact⟨rfl,⟨a,cap,b,H.out.set2 k⟩,A0x.set H.out.nk 2 _⟩
  ·have e0:(s.e==0)=false:=by simpa using h0
   have HE:E=s.e:=by rw[←hE];unfold A2w;rw[if_neg (fun h=>h0 h.2)]
   rw[HE];clear HE hE h0;go_enter Tryz.func33,Tryz.ntmps33
   go_wp2_with fail
   go_end0;exact⟨rfl,⟨a,cap,b,H.out⟩,A0x.refl _ _⟩
 ·have HE:E=s.e:=by rw[←hE];unfold A2w;rw[if_neg (fun h=>absurd h.1 (by decide))]
  rw[HE];clear HE hE;go_enter Tryz.func33,Tryz.ntmps33
  go_wp2_with fail
  go_end0;exact⟨rfl,⟨a,cap,b,H.out⟩,A0x.refl _ _⟩
theorem D3h(w:World):(zeroValue 3).run Tryz.prog w= .ok (.int .i64 0) w:=by kernel_rfl
theorem D3w{c k:KV}(hc:KOk c)(hk:KOk k)(h:E0s c=E0s k):c=k:=by
 have e:=B4b.inj (B2h hc) (by rw[h];exact B2h hk);obtain⟨a1,a2,a3,a4,a5⟩:=k;obtain⟨b1,b2,b3,b4,b5⟩:=c;simp[KV.cells]at e;obtain⟨rfl,rfl,rfl,rfl,rfl⟩:=e;rfl
theorem B3k.look{w:World}{b:Nat}{L:List KV}(h:B3k w b L){c:KV}(hc:KOk c)(ht:c.tag≠0):
  (Instr.lookup D7j (.map (some b)) (.agg c.cells.toArray) true).run Tryz.prog w= .ok (.tuple #[.int .i64 (((B7r L c).getD 0:Nat):Int),.bool (B7r L c).isSome]) w:=by
 obtain⟨D,h,hd⟩:=h;obtain⟨v,ps,hrun,hv⟩:=h.look_ok B4b Tryz.underlying90 (D3h w) (plainElem_int Tryz.underlying3 (a:=0) (by decide)) (B2h hc)
 obtain⟨i,rfl,hi,_⟩:=plainElem_int_inv Tryz.underlying3 hv;simp only[Prod.mk.injEq]at hi;have hat:=hi.1;rw[hd c hc ht]at hat;rw[hrun]
 cases hx:B7r L c with
 |none=>
  rw[hx]at hat;rw[Maps.has_false_of_atKey (fun z=>by rw[hd c hc ht,hx])];simp at hat;simp[←hat]
 |some k=>
  rw[hx]at hat;rw[Maps.has_true_of_atKey (fun z=>by rw[hd c hc ht,hx])];simp at hat;simp[←hat]
theorem D1d{L:List KV}{c k:KV}(hn:B7r L c=none):B7r (L++[c]) k=if eqK c k=true then some L.length else B7r L k:=by
 unfold B7r at hn⊢;rw[List.findIdx?_append];by_cases h:k=c
 ·subst h;have h1:eqK k k=true:=B0w.2 rfl;rw[hn,if_pos h1];simp[List.findIdx?_cons,h1]
 ·have h1:eqK k c=false:=by
   rw[Bool.eq_false_iff];intro hh;exact h (B0w.1 hh).symm
  rw[if_neg (fun hh=>h (B0w.1 hh))];simp[List.findIdx?_cons,h1]
theorem D6k{L:List KV}{k:KV}(ht:k.tag≠0):B7r (L++[kz]) k=B7r L k:=by
 unfold B7r;rw[List.findIdx?_append]
 have:eqK k kz=false:=by
  rw[Bool.eq_false_iff];intro hh;rw[←B0w.1 hh]at ht;exact ht rfl
 simp[List.findIdx?_cons,this]
theorem B3k.kz{w:World}{b:Nat}{L:List KV}(h:B3k w b L):B3k w b (L++[kz]):=by
 obtain⟨D,h,hd⟩:=h;exact⟨D,h.mono (by simp),fun c hc ht z=>by rw[hd c hc ht z,D6k ht]⟩
theorem B3k.store{w:World}{b:Nat}{L:List KV}(h:B3k w b L){c:KV}(hc:KOk c)(ht:c.tag≠0)(hn:B7r L c=none)(hl:L.length≤1099511627776):
  ∃w',(Instr.mapUpdate D7j (.map (some b)) (.agg c.cells.toArray) (.int .i64 (L.length:Nat))).run Tryz.prog w= .ok () w'∧B3k w' b (L++[c])∧w.grownBy w' (some b):=by
 obtain⟨D,h,hd⟩:=h
 obtain⟨w',hrun,hown,hturn⟩:=h.store B4b Tryz.underlying90 (by unfold maxLen;omega) (val:= .int .i64 (L.length:Nat)) (B2h hc) (plainElem_int Tryz.underlying3 (A1i (by omega)))
 refine⟨w',hrun,⟨_,by simpa using hown,fun k hk hkt z=> ?_⟩,hturn.grown⟩;rw[D1d hn];by_cases e:k=c
 ·subst e;rw[if_pos (B0w.2 rfl),Maps.atKey_put_same h.isMap (by trivial)]
 ·rw[if_neg (fun hh=>e (B0w.1 hh)),Maps.atKey_put_other (fun hh=>e (D3w hk hc hh)),hd k hk hkt]
theorem B3k.obj{w:World}{b:Nat}{L:List KV}(h:B3k w b L):∃es cl,w.heap[b]? =some (.map es cl):=by
 obtain⟨D,⟨es,cl,hm,_⟩,_⟩:=h;exact⟨es,cl,hm⟩
theorem D7c{w w':World}{B:Nat}{e:TypeId}{size:Nat}{v:Value}{n:Nat}{xs:List Value}{b:Nat}(h:w.ownsRow B e size v n xs)(hb:∃es cl,w.heap[b]? =some (.map es cl))(hg:w.grownBy w' (some b)):w'.ownsRow B e size v n xs:=by
 refine⟨h.1,?_⟩
 rcases h.2 with h1|⟨g,cap,cur,hv,hB,hc,r⟩
 ·exact .inl h1
 ·refine .inr ⟨g,cap,cur,hv,hB,?_,r⟩
  have hne:g≠b:=by
   rintro rfl;obtain⟨es,cl,hm⟩:=hb;rw[hm]at hc
   cases hc
  rw[hg.block g (A0u hc) (fun e=>hne (by simpa using e))];exact hc
theorem D8n{w:World}{B:Nat}{size:Nat}{v:Value}{n:Nat}{xs:List Value}(h:w.ownsRow B A6h size v n xs):∀k,v.ownBlock=some k→B≤k∧¬C0q w.heap[k]? :=by
 intro k hk
 rcases h.2 with⟨h1,_⟩|⟨g,cap,cur,hv,hB,hc,r⟩
 ·rw[h1]at hk;cases hk
 ·rw[hv]at hk;simp[Value.ownBlock]at hk;subst hk;exact⟨hB,by rw[hc];exact fun hh=>hh.1 rfl⟩
theorem D5s{w:World}{B:Nat}{e:TypeId}{size:Nat}{v:Value}{n:Nat}{xs:List Value}{b:Nat}(h:w.ownsRow B e size v n xs)(hb:∃es cl,w.heap[b]? =some (.map es cl)):some b≠v.ownBlock:=by
 intro hk
 rcases h.2 with⟨h1,_⟩|⟨g,cap,cur,hv,hB,hc,r⟩
 ·rw[h1]at hk;cases hk
 ·rw[hv]at hk;simp[Value.ownBlock]at hk;subst hk;obtain⟨es,cl,hm⟩:=hb;rw[hm]at hc
  cases hc
structure LoY(w:World)(B g:Nat)(L M:List KV)(er:Int)(a:Option Addr)(cap b:Nat):Prop where
 k:C7w w g (.slice a L.length cap) (.map (some b)) (.int .i64 er) B3x
 o:w.ownsRow B A6h 5 (.slice a L.length cap) L.length (L.flatMap KV.cells)
 m:B3k w b M
 bB:B≤b
 gB:B≤g
 B0:0<B
 vw:VW w
theorem LoY.x{w:World}{B g:Nat}{L:List KV}{er:Int}{a:Option Addr}{cap b:Nat}(h:LoY w B g L L er a cap b):LoX w B g ⟨L,er⟩ a cap b:=⟨h.k,h.o,h.m,h.bB,h.gB,h.B0,h.vw⟩
theorem LoY.below{w w':World}{B g:Nat}{L M:List KV}{er:Int}{a:Option Addr}{cap b:Nat}(h:LoY w B g L M er a cap b)(hb:Below w.heap.size w w'):LoY w' B g L M er a cap b:=
 ⟨h.k.below hb,A1n h.o hb,h.m.below hb,h.bB,h.gB,h.B0,h.vw.below hb⟩
theorem LoY.kz{w:World}{B g:Nat}{L M:List KV}{er:Int}{a:Option Addr}{cap b:Nat}(h:LoY w B g L M er a cap b):LoY w B g L (M++[Go.Proofs.YtclpkipaehpkdaaGreatDoor.kz]) er a cap b:=⟨h.k,h.o,h.m.kz,h.bB,h.gB,h.B0,h.vw⟩
theorem LoY.app{w w9:World}{B g:Nat}{L M:List KV}{er:Int}{a:Option Addr}{cap b:Nat}{o:Obj}{c:KV}{a9:Option Addr}{c9:Nat}(h:LoY w B g L M er a cap b)
  (hg:(w.alloc o).grownBy w9 (Value.slice a L.length cap).ownBlock) (ho:w9.ownsRow B A6h 5 (.slice a9 (L.length+1) c9) (L.length+1) ((L++[c]).flatMap KV.cells)):
  LoY (w9.setCell ⟨g,0,none⟩ (.slice a9 (L.length+1) c9)) B g (L++[c]) M er a9 c9 b∧A0x B w (w9.setCell ⟨g,0,none⟩ (.slice a9 (L.length+1) c9))∧w9.heap[g]? =some (.cells #[.slice a L.length cap,.map (some b),.int .i64 er] B3x):=by
 have hal:=A0e w o;have hya:=h.below hal;have hkt:=A3a.app h.o hg;have hk9:w9.heap[g]? =some (.cells #[.slice a L.length cap,.map (some b),.int .i64 er] B3x):=hkt.2 _ _ _ _ h.k (by decide)
 have hm9:B3k w9 b M:=hya.m.kept hg (D5s hya.o hya.m.obj);have hke:A0x B w w9:=(A0x.of hal).trans (A0x.grown hg (fun k hk _=>D8n hya.o k hk))
 have hnk:B≤g∧¬C0q w9.heap[g]? :=⟨h.gB,by rw[hk9];exact fun hh=>hh.2 rfl⟩
 have hbg:b≠g:=by
  rintro rfl;obtain⟨es,cl,hm⟩:=hm9.obj;rw[hm]at hk9
  cases hk9
 have hkk:=hke.trans (A0x.set hnk 0 (.slice a9 (L.length+1) c9));refine⟨⟨?_,?_,hm9.setCell hbg _,h.bB,h.gB,h.B0,hkk.vw h.vw h.B0⟩,hkk,hk9⟩
 ·rw[List.length_append,List.length_singleton];exact A1d hk9 0 _
 ·rw[List.length_append,List.length_singleton];exact A0z ho (A3v hk9 0 _) (by decide)
def SQ(g gx o:Nat)(c:KV)(v:Value)(z:World):Prop:=z.heap[gx]? =some (.cells c.cells.toArray A6h (0,0))∧z.cell? ⟨g,o,none⟩=some v
theorem A4q(w:World)(B g:Nat)(s:LW)(c:KV)(h:LoS w B g s)(hc:KOk c)(ht:c.tag≠0)(hn:s.l.length≤1099511627776)(hB:B≤w.heap.size):
  Calls Tryz.prog 72 #[.pointer (some ⟨g,0,none⟩),.agg c.cells.toArray] w (B2r (.int .i64 ((s.put c).2:Nat)) B g (s.put c).1 w):=by
 obtain⟨a,cap,b,hx⟩:=h;have HX:=Lib.hid hx;have HCK:=Lib.hid hc;have HTG:=Lib.hid ht;obtain⟨L,er⟩:=s;dsimp only at hn
 have hb1:Below w.heap.size w (w.alloc (.cells c.cells.toArray A6h)):=A0e _ _;have HB1:=Lib.hid hb1;have HBX0:=Lib.hid (heap_alloc_last w (.cells c.cells.toArray A6h))
 have HX1:=Lib.hid (hx.below hb1);have hgw:g<w.heap.size:=hx.lt;have hbw:b<w.heap.size:=hx.m.lt;obtain⟨C,hC⟩:∃C,C=c:=⟨_,rfl⟩;have HCC:=Lib.hid hC;rw[←hC]at HBX0 HX1 HB1⊢;subst hC
 clear hx hc ht hb1;obtain⟨ct,ca,cb,cn,cs⟩:=C;dsimp only[KV.cells]at HBX0 HX1 HB1⊢;obtain⟨R,hR⟩:∃R,R=(⟨L,er⟩:LW).put ⟨ct,ca,cb,cn,cs⟩:=⟨_,rfl⟩;rw[←hR];have HR:=Lib.hid hR;clear hR
 go_enter Tryz.func72,Tryz.ntmps72
 go_upto_region 1 with fail
 generalize w.alloc (.cells #[.int .i64 ct,.int .i64 ca,.int .i64 cb,.int .i64 cn,.string ⟨cs.toArray⟩] A6h)=W at*;obtain⟨c0,c1,c2,f0,f1,f2,lt⟩:=HX1.out.k.box;have k0:=A0a HBX0.out 0 rfl
 have k1:=A0a HBX0.out 1 rfl;have k2:=A0a HBX0.out 2 rfl;have k3:=A0a HBX0.out 3 rfl;have k4:=A0a HBX0.out 4 rfl
 have hlk:∀n,(Instr.lookup D7j (.map (some b)) (.agg #[.int .i64 ct,.int .i64 ca,.int .i64 cb,.int .i64 cn,.string ⟨cs.toArray⟩]) true).run Tryz.prog (W.drewN n)= .ok (.tuple #[.int .i64 (((B7r L ⟨ct,ca,cb,cn,cs⟩).getD 0:Nat):Int),.bool (B7r L ⟨ct,ca,cb,cn,cs⟩).isSome]) (W.drewN n):=
  fun n=>(HX1.out.m.below (A7j W n)).look HCK.out HTG.out
 cases hi:B7r L ⟨ct,ca,cb,cn,cs⟩with
 |some i=>
  rw[hi]at hlk;dsimp only[Option.getD_some,Option.isSome_some]at hlk;have HRR:=Lib.hid (show R=((⟨L,er⟩:LW),i) by rw[HR.out];unfold LW.put;rw[hi]);clear hi
  go_quiet (fail)
  go_wp2_with fail
  go_ret;rw[HRR.out];exact⟨rfl,⟨a,cap,b,HX1.out.below (A7j _ _)⟩,A0x.of (HB1.out.trans ((A7j _ _).mono HB1.out.size))⟩
 |none=>
  rw[hi]at hlk;dsimp only[Option.getD_none,Option.isSome_none]at hlk
  have HRR:=Lib.hid (show R=((⟨A9q L ⟨ct,ca,cb,cn,cs⟩,er⟩:LW).need (decide ((A9q L ⟨ct,ca,cb,cn,cs⟩).length≤1024)) 9,L.length) by rw[HR.out];unfold LW.put;rw[hi]);have HI:=Lib.hid hi
  clear hi
  go_quiet (fail)
  have hbn:=A7j W nq;have HB2:=Lib.hid (HB1.out.trans (hbn.mono HB1.out.size));have HX2:=Lib.hid (HX1.out.below hbn);have HBX2:=Lib.hid (A0c HBX0.out hbn)
  clear hlk hbn c0 c1 c2 f0 f1 f2 lt k0 k1 k2 k3 k4 HX1 HBX0 HB1;generalize W.drewN nq=W2 at*;obtain⟨c0,c1,c2,f0,f1,f2,lt⟩:=HX2.out.k.box
  go_upto_region 5 with fail
  obtain⟨W5,hup,hm5,hg5⟩:=(HX2.out.m.below ((Below.refl _ _).drew)).store HCK.out HTG.out HI.out hn;dsimp only[KV.cells]at hup;have HM5:=Lib.hid hm5;have HG5:=Lib.hid hg5;clear hm5 hg5
  refine A2v (B1h W2.drew) 6 [(0,true),(1,true),(2,true),(3,true),(4,true),(5,true)] (by kernel_rfl) (by kernel_rfl) (fun c a d v w h=>by cases d<;>exact h) ?_
  have hSw:B1h W2.drew W2.drew:=rfl;have l0:∀z,B1h W2.drew z→z.cell? ⟨g,1,none⟩=some (.map (some b)):=fun z h=>by rw[h];exact c1
  have l1:∀z,B1h W2.drew z→z.cell? ⟨w.heap.size,0,none⟩=some (.int .i64 ct):=fun z h=>by rw[h];exact A0a HBX2.out 0 rfl
  have l2:∀z,B1h W2.drew z→z.cell? ⟨w.heap.size,1,none⟩=some (.int .i64 ca):=fun z h=>by rw[h];exact A0a HBX2.out 1 rfl
  have l3:∀z,B1h W2.drew z→z.cell? ⟨w.heap.size,2,none⟩=some (.int .i64 cb):=fun z h=>by rw[h];exact A0a HBX2.out 2 rfl
  have l4:∀z,B1h W2.drew z→z.cell? ⟨w.heap.size,3,none⟩=some (.int .i64 cn):=fun z h=>by rw[h];exact A0a HBX2.out 3 rfl
  have l5:∀z,B1h W2.drew z→z.cell? ⟨w.heap.size,4,none⟩=some (.string ⟨cs.toArray⟩):=fun z h=>by rw[h];exact A0a HBX2.out 4 rfl
  iterate 6
   refine A0t fun K hK=>tkF ?_
   go_simp
   try go_bits
   refine hK _ _ ?_;clear hK K
  refine A5p (laF ?_);go_step;clear l0 l1 l2 l3 l4 l5 hSw
  have hmb:∀k,some b=some k→k<W2.drew.heap.size→B≤k∧¬C0q W2.drew.heap[k]? :=fun k e _=>by
   cases e
   exact HX2.out.nm
  have HK5:=Lib.hid (A0x.grown HG5.out hmb);have HB5:=Lib.hid (HB2.out.trans (((Below.refl W2.heap.size W2).drew).mono HB2.out.size))
  have HC5:=Lib.hid ((A0x.of HB2.out:A0x B w W2).trans ((A0x.of ((Below.refl _ _).drew):A0x B W2 W2.drew).trans HK5.out))
  have hgb:some g≠some b:=fun e=>HX2.out.bg (by cases e;rfl)
  have HL5:=Lib.hid (show W5.heap[g]? =some (.cells #[.slice a L.length cap,.map (some b),.int .i64 er] B3x)from by rw[HG5.out.block g HX2.out.lt hgb];exact HX2.out.k)
  have HO5:=Lib.hid (show W5.ownsRow B A6h 5 (.slice a L.length cap) L.length (L.flatMap KV.cells)from D7c (A1n HX2.out.o ((Below.refl _ _).drew)) (HX2.out.m.below ((Below.refl _ _).drew)).obj HG5.out)
  have hbx:some w.heap.size≠some b:=fun e=>by cases e;omega
  have HBQ:=Lib.hid (show W5.heap[w.heap.size]? =some (.cells #[.int .i64 ct,.int .i64 ca,.int .i64 cb,.int .i64 cn,.string ⟨cs.toArray⟩] A6h)from by rw[HG5.out.block w.heap.size (A0u HBX2.out) hbx];exact HBX2.out)
  have hs5:w.heap.size<W5.heap.size:=Nat.lt_of_lt_of_le (A0u HBX2.out) HG5.out.size;have HV5:=Lib.hid (HC5.out.vw HX.out.vw HX.out.B0);have hBb:B≤b:=HX.out.bB;have hBg:B≤g:=HX.out.gB
  have hgk:=HX.out.bg;clear HB2 HX2 HBX2 HK5 HG5 HB5 hmb hgb hbx c0 c1 c2 f0 f1 f2 lt hup
  have HY5:=Lib.hid (show LoY W5 B g L (L++[⟨ct,ca,cb,cn,cs⟩]) er a cap b from⟨HL5.out,HO5.out,HM5.out,hBb,hBg,HX.out.B0,HV5.out⟩)
  have hob:=fun k (h:(Value.slice a L.length cap).ownBlock=some k)=>(HX.out.o.lt k h).2
  have HOB:=Lib.hid hob;clear HL5 HO5 HM5 HV5 hob
  go_wp2_with fail
  go_upto_region 6 with fail
  have HC6:=Lib.hid (HC5.out.trans (A0x.of ((Below.refl W5.heap.size W5).drew)));have HY6:=Lib.hid (HY5.out.below ((Below.refl _ _).drew))
  have hSw:SQ g w.heap.size 0 ⟨ct,ca,cb,cn,cs⟩ (.slice a L.length cap) W5.drew:=⟨HBQ.out,A0a HY6.out.k 0 rfl⟩;have hs6:w.heap.size<W5.drew.heap.size:=hs5;clear HC5 HY5 HBQ hs5
  have l0:∀z,SQ g w.heap.size 0 ⟨ct,ca,cb,cn,cs⟩ (.slice a L.length cap) z→z.cell? ⟨g,0,none⟩=some (.slice a L.length cap):=fun z h=>h.2
  have l1:∀z,SQ g w.heap.size 0 ⟨ct,ca,cb,cn,cs⟩ (.slice a L.length cap) z→z.cell? ⟨w.heap.size,0,none⟩=some (.int .i64 ct):=fun z h=>A0a h.1 0 rfl
  have l2:∀z,SQ g w.heap.size 0 ⟨ct,ca,cb,cn,cs⟩ (.slice a L.length cap) z→z.cell? ⟨w.heap.size,1,none⟩=some (.int .i64 ca):=fun z h=>A0a h.1 1 rfl
  have l3:∀z,SQ g w.heap.size 0 ⟨ct,ca,cb,cn,cs⟩ (.slice a L.length cap) z→z.cell? ⟨w.heap.size,2,none⟩=some (.int .i64 cb):=fun z h=>A0a h.1 2 rfl
  have l4:∀z,SQ g w.heap.size 0 ⟨ct,ca,cb,cn,cs⟩ (.slice a L.length cap) z→z.cell? ⟨w.heap.size,3,none⟩=some (.int .i64 cn):=fun z h=>A0a h.1 3 rfl
  have l5:∀z,SQ g w.heap.size 0 ⟨ct,ca,cb,cn,cs⟩ (.slice a L.length cap) z→z.cell? ⟨w.heap.size,4,none⟩=some (.string ⟨cs.toArray⟩):=fun z h=>A0a h.1 4 rfl
  refine A2v (SQ g w.heap.size 0 ⟨ct,ca,cb,cn,cs⟩ (.slice a L.length cap)) 10 [(0,true),(1,true),(2,true),(3,true),(4,true),(5,true),(6,false),(7,false),(8,true),(9,true)] (by kernel_rfl) (by kernel_rfl) (fun c a d v w h=>by cases d<;>exact h) ?_
  generalize W5.drew=W6 at*
  iterate 6
   refine A0t fun K hK=>tkF ?_
   go_simp
   try go_bits
   refine hK _ _ ?_;clear hK K
  refine A0t fun K hK=>alF ?_
  go_step;have hal:Below W6.heap.size W6 (W6.alloc (.cells #[.int .i64 ct,.int .i64 ca,.int .i64 cb,.int .i64 cn,.string ⟨cs.toArray⟩] A6h)):=A0e _ _
  have hSx:SQ g w.heap.size 0 ⟨ct,ca,cb,cn,cs⟩ (.slice a L.length cap) (W6.alloc (.cells #[.int .i64 ct,.int .i64 ca,.int .i64 cb,.int .i64 cn,.string ⟨cs.toArray⟩] A6h)):=⟨A0c hSw.1 hal,A0f hal hSw.2⟩
  refine⟨hSx,hK _ _ ?_⟩;clear hK K;refine A0t fun K hK=>alF ?_
  change Oper.wp _ _ _ _ _ _
  refine A8i D7u (ops:= #[]) rfl _ _ _ rfl B _ L.length _ rfl (HY6.out.o.alloc _) _ 1 _ rfl (Src.litS (m:=1) rfl rfl D7u.1) (by omega) (by unfold maxLen;omega) (Nat.le_trans hB (by simp;omega)) ?_
  intro v9 w9 hown9 hg9 hb9;have hown8:w9.ownsRow B A6h 5 v9 (L.length+1) ((L++[(⟨ct,ca,cb,cn,cs⟩:KV)]).flatMap KV.cells):=(by rw[List.flatMap_append];exact hown9)
  obtain⟨a9,c9,rfl,-,-⟩:=Ss.ofOwn KV.cells_length (by decide) hown8;have HAP:=Lib.hid (HY6.out.app hg9 hown8)
  have HBQ:=Lib.hid (show w9.heap[w.heap.size]? =some (.cells #[.int .i64 ct,.int .i64 ca,.int .i64 cb,.int .i64 cn,.string ⟨cs.toArray⟩] A6h)from by
   rw[hg9.block w.heap.size (Nat.lt_of_lt_of_le hs6 hal.size) (fun e=>Nat.lt_irrefl _ (HOB.out _ e.symm))];exact hSx.1)
  have hSn:SQ g w.heap.size 0 ⟨ct,ca,cb,cn,cs⟩ (.slice a L.length cap) w9:=⟨HBQ.out,A0a HAP.out.2.2 0 rfl⟩;clear hSw hSx hal hown9 hown8 hg9 hb9;have hSw:=hSn;clear hSn;refine⟨hSw,hK _ _ ?_⟩
  clear hK K
  iterate 2
   refine A0t fun K hK=>tkF ?_
   go_simp
   try go_bits
   refine hK _ _ ?_;clear hK K
  have fo:=A1a HAP.out.2.2 0;have lto:=A0u HAP.out.2.2;have co:=A0a HAP.out.2.2 0 rfl;refine A5p (laF ?_);go_step
  have HBR:=Lib.hid (A1c HBQ.out (show w.heap.size≠g by omega) 0 (.slice a9 (L.length+1) c9));have HY7:=Lib.hid HAP.out.1;have HC7:=Lib.hid (HC6.out.trans HAP.out.2.1)
  clear HAP HBQ HC6 HY6 l0 l1 l2 l3 l4 l5 hSw fo lto co hs6;generalize w9.setCell ⟨g,0,none⟩ (.slice a9 (L.length+1) c9)=W7 at*
  have k0:W7.cell? ⟨w.heap.size,0,none⟩=some (.int .i64 ct):=A0a HBR.out 0 rfl
  have HNF:=Lib.hid (fun(W:World) (L':List KV) (h:LoS W B g ⟨L',er⟩)=>A0y W B g ⟨L',er⟩ (decide (L'.length≤1024)) 9 h);by_cases h5:ct=5
  ·have e5:(ct==5)=true:=by rw[h5];rfl
   have HP:=Lib.hid (show A9q L ⟨ct,ca,cb,cn,cs⟩=(L++[⟨ct,ca,cb,cn,cs⟩])++[kz] by unfold A9q;rw[if_pos h5]);rw[HP.out]at HRR;clear h5
   go_upto_region 8 with fail
   clear k0 e5;obtain⟨c0,c1,c2,f0,f1,f2,lt⟩:=HY7.out.k.box;obtain⟨L1,hL1⟩:∃L1,L1=L++[(⟨ct,ca,cb,cn,cs⟩:KV)]:=⟨_,rfl⟩;have hnb:L1.length≤1099511627777:=by rw[hL1];simp;omega
   have HS7:B≤W7.heap.size:=Nat.le_trans hBg (Nat.le_of_lt HY7.out.k.box.lt);rw[←hL1]at c0 HRR;rw[←hL1]at HY7;clear hL1 HP
   go_wp2_with (at_builtin;refine A0r D7u rfl _ _ rfl B _ L1.length _ rfl HY7.out.o _ 1 _ _ rfl (by simp) rfl rfl (by omega) (by unfold maxLen;omega) HS7 ?_;intro v9 w9 hown9 hg9 hb9;have hown8:w9.ownsRow B A6h 5 v9 (L1.length+1) ((L1++[kz]).flatMap KV.cells):=(by rw[List.flatMap_append];exact hown9);obtain⟨b9,d9,rfl,-,-⟩:=Ss.ofOwn KV.cells_length (by decide) hown8;have HAP:=Lib.hid (HY7.out.app hg9 hown8);have fo:=A1a HAP.out.2.2 0;have lto:=A0u HAP.out.2.2;have co:=A0a HAP.out.2.2 0 rfl;clear hown9 hown8 hg9 hb9 c0 c1 c2 f0 f1 f2 lt)
   have HN:=Lib.hid (HNF.out _ (L1++[kz]) ⟨_,_,b,(HAP.out.1.kz).x⟩)
   rw[show decide (((L1.length:Nat):Int)+1≤1024)=decide ((L1++[kz]).length≤1024)from decide_eq_decide.2 (by rw[List.length_append,List.length_singleton];omega)];refine HN.out.mono ?_
   rintro e W8 ⟨rfl,hs8,hk8⟩;clear fo lto co
   go_wp2_with fail
   go_ret;rw[HRR.out];exact⟨rfl,hs8,(HC7.out.trans HAP.out.2.1).trans hk8⟩
  ·have e5:(ct==5)=false:=by simpa using h5
   have HP:=Lib.hid (show A9q L ⟨ct,ca,cb,cn,cs⟩=L++[⟨ct,ca,cb,cn,cs⟩] by unfold A9q;rw[if_neg h5,List.append_nil]);rw[HP.out]at HRR;clear h5
   obtain⟨c0,c1,c2,f0,f1,f2,lt⟩:=HY7.out.k.box;have HN:=Lib.hid (HNF.out W7 _ ⟨a9,c9,b,HY7.out.x⟩);obtain⟨nl,hnl⟩:∃nl,nl=(L++[(⟨ct,ca,cb,cn,cs⟩:KV)]).length:=⟨_,rfl⟩
   have hnb:nl≤1099511627777:=by rw[hnl];simp;omega
   obtain⟨bq,hbq⟩:∃bq,bq=decide (nl≤1024):=⟨_,rfl⟩;have hbi:decide ((nl:Int)≤1024)=bq:=by rw[hbq];exact decide_eq_decide.2 (by omega)
   rw[←hnl]at c0 HN HRR;rw[←hbq]at HN HRR;clear hnl hbq
   go_wp2_with fail
   refine HN.out.mono ?_;rintro e W8 ⟨rfl,hs8,hk8⟩
   go_wp2_with fail
   go_ret;rw[HRR.out];exact⟨rfl,hs8,HC7.out.trans hk8⟩
theorem A0x.bnd{B:Nat}{w w':World}(h:A0x B w w')(hB:B≤w.heap.size):B≤w'.heap.size:=Nat.le_trans hB h.size
theorem D4a{t:List UInt8}(h:t.length≤65536):KOk ⟨1,0,0,0,t⟩:=⟨A1i (by dsimp only;omega),A1i (by dsimp only;omega),A1i (by dsimp only;omega),A1i (by dsimp only;omega),by show t.length≤_;omega⟩
theorem A7t{tag a b n:Int}(ht:0≤tag∧tag≤65536)(ha:0≤a∧a≤1099511627776)(hb:0≤b∧b≤1099511627776)(hn:A3m n):KOk ⟨tag,a,b,n,[]⟩:=⟨A1i (by dsimp only;omega),A1i (by dsimp only;omega),A1i (by dsimp only;omega),hn,by simp⟩
theorem A3b(w:World)(B g:Nat)(s:LW)(t:List UInt8)(h:LoS w B g s)(ht:t.length≤65536)(hn:s.l.length≤1099511627776)(hB:B≤w.heap.size):
  Calls Tryz.prog 35 #[.pointer (some ⟨g,0,none⟩),.string ⟨t.toArray⟩] w (B2r (.int .i64 ((s.text t).2:Nat)) B g (s.text t).1 w):=by
 have HP:=Lib.hid (A4q w B g s ⟨1,0,0,0,t⟩ h (D4a ht) (show(1:Int)≠0 by decide) hn hB);have hr:s.text t=s.put ⟨1,0,0,0,t⟩:=rfl;rw[hr];generalize s.put ⟨1,0,0,0,t⟩=r at*
 clear hr h;go_enter Tryz.func35,Tryz.ntmps35
 go_wp2_with fail
 refine HP.out.mono ?_;rintro e w1 ⟨rfl,hs,hk⟩
 go_wp2_with fail
 go_ret;exact⟨rfl,hs,hk⟩
theorem A4r(w:World)(B g:Nat)(s:LW)(t:List UInt8)(arr:Bool)(h:LoS w B g s)(ht:t.length≤65536)(hn:s.l.length≤1000000000100)(hB:B≤w.heap.size):
  Calls Tryz.prog 32 #[.pointer (some ⟨g,0,none⟩),.string ⟨t.toArray⟩,.bool arr] w (B2r (.int .i64 ((s.cls t arr).2:Nat)) B g (s.cls t arr).1 w):=by
 have hvw:VW w:=by obtain⟨a,cap,b,h⟩:=h;exact h.vw
 have HN:=Lib.hid (fun W ok (hb:Below w.heap.size w W)=>A0y W B g s ok 8 (h.below hb));have HI:=Lib.hid (fun W (hb:Below w.heap.size w W)=>A7b W t (by omega) (hvw.below hb))
 have HA:=Lib.hid (fun W (hb:Below w.heap.size w W)=>A8r W t ht (hvw.below hb));have HB0:=Lib.hid (Below.refl w.heap.size w);have HTL:=Lib.hid ht;unfold LW.cls
 obtain⟨R,hR⟩:∃R,R=(classB t||(arr&&A2z t)):=⟨_,rfl⟩;rw[←hR];have HR:=hR;clear hR;generalize classB t=x1 at*;generalize A2z t=x2 at*;clear h hvw ht
 cases x1
 ·cases arr
  ·have hR:R=false:=HR;subst hR;clear HR;go_enter Tryz.func32,Tryz.ntmps32
   go_wp2_with fail
   refine(HI.out w HB0.out).mono ?_;rintro e w2 ⟨rfl,hb2⟩;have HB2:=Lib.hid hb2;clear hb2
   go_wp2_with fail
   refine(HN.out w2 false HB2.out).mono ?_;rintro e w5 ⟨rfl,hs5,hk5⟩
   have HT:=Lib.hid (A3b w5 B g (s.need false 8) t hs5 HTL.out (show s.l.length≤_ by omega) (Nat.le_trans hB (Nat.le_trans HB2.out.size hk5.size)));have HK5:=Lib.hid ((A0x.of HB2.out).trans hk5)
   have hl6:((s.need false 8).text t).1.l.length≤s.l.length+2:=A2h (s.need false 8) t;have hi6:((s.need false 8).text t).2≤s.l.length:=B3j (s.need false 8) _
   generalize(s.need false 8).text t=T at*;obtain⟨s6,i6⟩:=T;dsimp only at hl6 hi6;have HL6:=Lib.hid hl6;clear hs5 hk5 hl6
   go_wp2_with fail
   refine HT.out.mono ?_;rintro e w6 ⟨rfl,hs6,hk6⟩
   have HP:=Lib.hid (A4q w6 B g s6 ⟨7,(i6:Nat),0,0,[]⟩ hs6 (A7t (by omega) (by omega) (by omega) (A1i (by omega))) (show(7:Int)≠0 by decide) (by have:=HL6.out;omega) ((HK5.out.trans hk6).bnd hB))
   have HK6:=Lib.hid (HK5.out.trans hk6);clear hs6 hk6 HT HL6 HK5;dsimp only[KV.cells]at HP;generalize s6.put ⟨7,(i6:Nat),0,0,[]⟩=Q at*
   go_wp2_with fail
   refine HP.out.mono ?_;rintro e w7 ⟨rfl,hs7,hk7⟩
   go_wp2_with fail
   go_ret;exact⟨rfl,hs7,HK6.out.trans hk7⟩
  ·have hR:R=x2:=HR;subst hR;clear HR;go_enter Tryz.func32,Tryz.ntmps32
   go_wp2_with fail
   refine(HI.out w HB0.out).mono ?_;rintro e w2 ⟨rfl,hb2⟩;have HB2:=Lib.hid hb2;clear hb2
   go_wp2_with fail
   refine(HA.out w2 HB2.out).mono ?_;rintro e w3 ⟨rfl,hb3⟩;have HB3:=Lib.hid (HB2.out.trans (hb3.mono HB2.out.size));clear hb3
   go_wp2_with fail
   refine(HN.out w3 R HB3.out).mono ?_;rintro e w5 ⟨rfl,hs5,hk5⟩
   have HT:=Lib.hid (A3b w5 B g (s.need R 8) t hs5 HTL.out (show s.l.length≤_ by omega) (Nat.le_trans hB (Nat.le_trans HB3.out.size hk5.size)));have HK5:=Lib.hid ((A0x.of HB3.out).trans hk5)
   have hl6:((s.need R 8).text t).1.l.length≤s.l.length+2:=A2h (s.need R 8) t;have hi6:((s.need R 8).text t).2≤s.l.length:=B3j (s.need R 8) _;generalize(s.need R 8).text t=T at*
   obtain⟨s6,i6⟩:=T;dsimp only at hl6 hi6;have HL6:=Lib.hid hl6;clear hs5 hk5 hl6
   go_wp2_with fail
   refine HT.out.mono ?_;rintro e w6 ⟨rfl,hs6,hk6⟩
   have HP:=Lib.hid (A4q w6 B g s6 ⟨7,(i6:Nat),0,0,[]⟩ hs6 (A7t (by omega) (by omega) (by omega) (A1i (by omega))) (show(7:Int)≠0 by decide) (by have:=HL6.out;omega) ((HK5.out.trans hk6).bnd hB))
   have HK6:=Lib.hid (HK5.out.trans hk6);clear hs6 hk6 HT HL6 HK5;dsimp only[KV.cells]at HP;generalize s6.put ⟨7,(i6:Nat),0,0,[]⟩=Q at*
   go_wp2_with fail
   refine HP.out.mono ?_;rintro e w7 ⟨rfl,hs7,hk7⟩
   go_wp2_with fail
   go_ret;exact⟨rfl,hs7,HK6.out.trans hk7⟩
 ·have hR:R=true:=HR;subst hR;clear HR;go_enter Tryz.func32,Tryz.ntmps32
  go_wp2_with fail
  refine(HI.out w HB0.out).mono ?_;rintro e w2 ⟨rfl,hb2⟩;have HB2:=Lib.hid hb2;clear hb2
  go_wp2_with fail
  refine(HN.out w2 true HB2.out).mono ?_;rintro e w5 ⟨rfl,hs5,hk5⟩
  have HT:=Lib.hid (A3b w5 B g (s.need true 8) t hs5 HTL.out (show s.l.length≤_ by omega) (Nat.le_trans hB (Nat.le_trans HB2.out.size hk5.size)));have HK5:=Lib.hid ((A0x.of HB2.out).trans hk5)
  have hl6:((s.need true 8).text t).1.l.length≤s.l.length+2:=A2h (s.need true 8) t;have hi6:((s.need true 8).text t).2≤s.l.length:=B3j (s.need true 8) _
  generalize(s.need true 8).text t=T at*;obtain⟨s6,i6⟩:=T;dsimp only at hl6 hi6;have HL6:=Lib.hid hl6;clear hs5 hk5 hl6
  go_wp2_with fail
  refine HT.out.mono ?_;rintro e w6 ⟨rfl,hs6,hk6⟩
  have HP:=Lib.hid (A4q w6 B g s6 ⟨7,(i6:Nat),0,0,[]⟩ hs6 (A7t (by omega) (by omega) (by omega) (A1i (by omega))) (show(7:Int)≠0 by decide) (by have:=HL6.out;omega) ((HK5.out.trans hk6).bnd hB))
  have HK6:=Lib.hid (HK5.out.trans hk6);clear hs6 hk6 HT HL6 HK5;dsimp only[KV.cells]at HP;generalize s6.put ⟨7,(i6:Nat),0,0,[]⟩=Q at*
  go_wp2_with fail
  refine HP.out.mono ?_;rintro e w7 ⟨rfl,hs7,hk7⟩
  go_wp2_with fail
  go_ret;exact⟨rfl,hs7,HK6.out.trans hk7⟩
end
end Go.Proofs.YtclpkipaehpkdaaGreatDoor
