/- asm -/
import Derived.Test.YtclpkipaehpkdaaGreatDoorQ10AsmMade
import Derived.Test.YtclpkipaehpkdaaGreatDoorQ09AsmMade
import Derived.DeepKeys4
set_option linter.unusedVariables false
set_option linter.unusedSimpArgs false
set_option maxRecDepth 100000
set_option maxHeartbeats 64000000
namespace Go.Proofs.YtclpkipaehpkdaaGreatDoor
section
open Go.ChangeShapes Go.WideShapes Go.ChangeAt Go.RowKit
def eqK(c k:KV):Bool:=decide (k.tag=c.tag/\k.a=c.a/\k.b=c.b/\k.n=c.n/\k.s=c.s)
theorem A8h{c k:KV}:eqK c k=true↔k=c:=by
 unfold eqK;rw[decide_eq_true_iff];obtain⟨a1,a2,a3,a4,a5⟩:=k;obtain⟨b1,b2,b3,b4,b5⟩:=c;simp[KV.mk.injEq]
def B2g(l:List KV)(c:KV):Option Nat:=l.findIdx? (eqK c)
def A2t(l:List KV)(c:KV):List KV:=(l++[c])++(if c.tag=5 then [kz]else [])
structure LW where
 l:List KV
 e:Int
def LW.need(s:LW)(ok:Bool)(k:Int):LW:=⟨s.l,A2a s.e ok k⟩
def LW.put(s:LW)(c:KV):LW×Nat:=match B2g s.l c with
 |some i=>(s,i)
 |none=>((⟨A2t s.l c,s.e⟩:LW).need (decide ((A2t s.l c).length<=1024)) 9,s.l.length)
def LW.text(s:LW)(t:List UInt8):LW×Nat:=s.put ⟨1,0,0,0,t⟩
def LW.cls(s:LW)(t:List UInt8)(arr:Bool):LW×Nat:=
 (((s.need (A1b t||(arr&&A2g t)) 8).text t).1).put ⟨7,(((s.need (A1b t||(arr&&A2g t)) 8).text t).2:Nat),0,0,[]⟩
def LW.member(s:LW)(x:IN)(tag:Int)(p:List UInt8->Bool):LW×Nat:=
 let c:=(s.need (A5e x.nm&&p x.ds) 8).cls x.cl false
 let n:=c.1.text x.nm
 let d:=n.1.text x.ds
 let b:=d.1.put ⟨12,(n.2:Nat),(d.2:Nat),0,[]⟩
 b.1.put ⟨tag,(c.2:Nat),(b.2:Nat),0,[]⟩
def A4d(n:Int):Bool:=decide (-2147483648<=n/\n<=2147483647)
def LW.con(s:LW)(x:IN):LW×Nat:=
 if x.ds=[73]/\x.op=18/\x.tx=[]then(s.need (A4d x.n) 8).put ⟨3,0,0,x.n,[]⟩
 else if x.ds=[83]/\x.op=18/\x.n=0 then((s.text x.tx).1).put ⟨8,((s.text x.tx).2:Nat),0,0,[]⟩
 else if x.ds=[74]/\x.op=20/\x.tx=[]then s.put ⟨5,0,0,x.n,[]⟩
 else(s.need false 8,0)
def A8v(x:IN):Bool:=decide ((x.m=0\/A0g x.op=8)/\x.cl=[]/\x.nm=[]/\x.ds=[]/\x.tx=[])
def A3d(x:IN):Bool:=decide (x.n=0/\x.m=0/\x.tx=[])
def B0x(x:IN):Bool:=decide (x.n=0/\x.m=0/\x.nm=[]/\x.ds=[]/\x.tx=[])
def LW.wide(s:LW)(x:IN):LW×Nat:=
 if A6k x.op then(s.need (A3d x) 8).member x 9 typeB
 else if A9a x.op then(s.need (A3d x) 8).member x 10 A3k
 else(s.need (B0x x) 8).cls x.cl (decide (x.op≠187))
def A2y(n:Int):Int:=(n+2147483648)%4294967296-2147483648
def LW.small(s:LW)(n:Int):LW×Int:=(s.need (A4d n) 8,A2y n)
def LW.raw(s:LW)(p:Nat)(x:IN):LW×RW:=
 if x.op=18\/x.op=20 then
  let c:=(s.need (decide (x.cl=[]/\x.nm=[]/\x.m=0)) 8).con x
  (c.1.need (decide (A0g x.op≠5)||decide (c.2<=255)) 9,⟨p,x.op,(c.2:Nat),0⟩)
 else if A0g x.op=6 then((s.wide x).1,⟨p,x.op,((s.wide x).2:Nat),0⟩)
 else if A0g x.op=0 then(s.need false 8,⟨p,x.op,0,0⟩)
 else(((s.need (A8v x) 8).small x.n).1,⟨p,x.op,A2y x.n,x.m⟩)
def A7w(x:IN):Nat:=A0w (A0g x.op)
def LW.raws(s:LW)(p:Nat):List IN->LW×List RW
 |[]=>(s,[])
 |x::l=>(((s.raw p x).1.raws (p+A7w x) l).1,(s.raw p x).2::((s.raw p x).1.raws (p+A7w x) l).2)
def A3q(l:List IN)(n:Nat):Nat:=((l.take n).map A7w).sum
def inB(l:List IN)(n:Int):Bool:=decide (0<=n/\n<l.length)
def A2z(l:List IN)(x:IN)(r:RW):RW:=if A0g x.op=7/\inB l x.n=true then{r with a:=(A3q l x.n.toNat:Nat)}else r
def LW.goes(s:LW)(l:List IN):List IN->LW
 |[]=>s
 |x::k=>(if A0g x.op=7 then s.need (inB l x.n) 2 else s).goes l k
def A8k(l:List IN)(rs:List RW):List RW:=(l.zip rs).map fun p=>A2z l p.1 p.2
def LW.code(s:LW)(l:List IN):LW×List UInt8:=
 let c:=s.raws 0 l
 let e:=A1t (A8k l c.2)
 ((c.1.goes l l).need (decide (e.1=0)) e.1,e.2)
def LW.slot(s:LW)(t:List UInt8):LW×KS:=
 if t=[84]then(s,⟨0,0⟩)else if t=[73]then(s,⟨1,0⟩)else if t=[74]then(s,⟨4,0⟩)else if t=[78]then(s,⟨5,0⟩)
 else if A9w t then((s.cls (B7q t) false).1,⟨7,((s.cls (B7q t) false).2:Nat)⟩)
 else(((s.need (A2g t) 8).cls t true).1,⟨7,(((s.need (A2g t) 8).cls t true).2:Nat)⟩)
def LW.slots(s:LW):List (List UInt8)->LW×List KS
 |[]=>(s,[])
 |t::l=>(((s.slot t).1.slots l).1,(s.slot t).2::((s.slot t).1.slots l).2)
def A1w(st:Bool):Int:=if st then 8 else 0
def LW.place(s:LW)(l:List IN)(n most:Int):LW×Int:=if n<0\/most<n then(s.need false 2,0)else(s,(A3q l n.toNat:Nat))
def LW.trap(s:LW)(l:List IN)(t:UT):LW×KT:=
 let a:=s.place l t.fr (l.length-1)
 let b:=a.1.place l t.tt l.length
 let c:=b.1.place l t.pl (l.length-1)
 if t.cl=[]then(c.1,⟨a.2,b.2,c.2,0⟩)else((c.1.cls t.cl false).1,⟨a.2,b.2,c.2,((c.1.cls t.cl false).2:Nat)⟩)
def LW.traps(s:LW)(l:List IN):List UT->LW×List KT
 |[]=>(s,[])
 |t::k=>(((s.trap l t).1.traps l k).1,(s.trap l t).2::((s.trap l t).1.traps l k).2)
def LW.map(s:LW)(l:List IN)(m:UP):LW×KP:=
 let a:=s.place l m.pl (l.length-1)
 let b:=a.1.slots m.loc
 let c:=b.1.slots m.stk
 (c.1,⟨a.2,none,0,0,b.2,none,0,0,c.2⟩)
def LW.maps(s:LW)(l:List IN):List UP->LW×List KP
 |[]=>(s,[])
 |t::k=>(((s.map l t).1.maps l k).1,(s.map l t).2::((s.map l t).1.maps l k).2)
def LW.method(s:LW)(m:UM):LW×KM:=
 let n:=(s.need (A5e m.nm&&A3k m.ds) 8).text m.nm
 let d:=n.1.text m.ds
 let c:=(d.1.text A6z).1
 let c2:=if m.maps=[]then c else(c.text B4t).1
 let k:=c2.code m.code
 let t:=k.1.traps m.code m.traps
 let p:=t.1.maps m.code m.maps
 (p.1,⟨A1w m.st,(n.2:Nat),(d.2:Nat),m.sk,m.lo,none,0,0,k.2,none,0,0,t.2,none,0,0,p.2⟩)
def LW.methods(s:LW):List UM->LW×List KM
 |[]=>(s,[])
 |t::k=>(((s.method t).1.methods k).1,(s.method t).2::((s.method t).1.methods k).2)
def LW.field(s:LW)(f:UF):LW×KD:=
 let n:=(s.need (A5e f.nm&&typeB f.ds) 8).text f.nm
 let d:=n.1.text f.ds
 (d.1,⟨A1w f.st,(n.2:Nat),(d.2:Nat)⟩)
def LW.fields(s:LW):List UF->LW×List KD
 |[]=>(s,[])
 |t::k=>(((s.field t).1.fields k).1,(s.field t).2::((s.field t).1.fields k).2)
def LW.consts1(s:LW):List IN->LW
 |[]=>s
 |x::l=>(if x.op=18 then(s.con x).1 else s).consts1 l
def LW.consts(s:LW):List UM->LW
 |[]=>s
 |m::l=>(s.consts1 m.code).consts l
def A9x(u:UU):LW×KF:=
 let s:=(⟨[kz],0⟩:LW).consts u.methods
 let t:=s.cls u.nm false
 let p:=if u.su=[]then(t.1,0)else t.1.cls u.su false
 let f:=p.1.fields u.fields
 let m:=f.1.methods u.methods
 (m.1,⟨none,0,0,m.1.l,(t.2:Nat),(p.2:Nat),none,0,0,f.2,none,0,0,m.2⟩)
def C5q(u:UU):Int:=if(A9x u).1.e=0 then(if A2r (A9x u).2 then 0 else 8)else(A9x u).1.e
theorem D0h(l:List KV)(c:KV):(A2t l c).length<=l.length+2:=by
 unfold A2t;split<;>simp
theorem B0w(l:List KV)(c:KV):l<+:A2t l c:=by
 unfold A2t;rw[List.append_assoc];exact List.prefix_append _ _
theorem A8m(s:LW)(c:KV):(s.put c).1.l.length<=s.l.length+2:=by
 unfold LW.put;split
 ·simp
 exact D0h _ _
theorem B3k(s:LW)(c:KV):s.l<+:(s.put c).1.l:=by
 unfold LW.put;split
 ·exact List.prefix_refl _
 exact B0w _ _
theorem D1j{l:List KV}{c:KV}{i:Nat}(h:B2g l c=some i):i<l.length:=(List.findIdx?_eq_some_iff_getElem.1 h).1
theorem A5x(s:LW)(c:KV):(s.put c).2<(s.put c).1.l.length:=by
 unfold LW.put;split
 ·next h=>exact D1j h
 show s.l.length<(A2t s.l c).length;unfold A2t;simp
theorem B2p(s:LW)(c:KV):(s.put c).2<=s.l.length:=by
 unfold LW.put;split
 ·next h=>exact Nat.le_of_lt (D1j h)
 exact Nat.le_refl _
theorem A1x(s:LW)(t:List UInt8):(s.text t).1.l.length<=s.l.length+2:=A8m _ _
theorem A7h(s:LW)(t:List UInt8)(arr:Bool):(s.cls t arr).1.l.length<=s.l.length+4:=by
 unfold LW.cls;have h1:=A1x (s.need (A1b t||(arr&&A2g t)) 8) t
 have h2:=A8m ((s.need (A1b t||(arr&&A2g t)) 8).text t).1 ⟨7,(((s.need (A1b t||(arr&&A2g t)) 8).text t).2:Nat),0,0,[]⟩
 have h3:(s.need (A1b t||(arr&&A2g t)) 8).l=s.l:=rfl;rw[h3]at h1;omega
theorem B6i(s:LW)(x:IN)(tag:Int)(p:List UInt8->Bool):(s.member x tag p).1.l.length<=s.l.length+12:=by
 unfold LW.member;dsimp only;have h0:(s.need (A5e x.nm&&p x.ds) 8).l=s.l:=rfl;have h1:=A7h (s.need (A5e x.nm&&p x.ds) 8) x.cl false;rw[h0]at h1
 generalize(s.need (A5e x.nm&&p x.ds) 8).cls x.cl false=c at*;have h2:=A1x c.1 x.nm;generalize c.1.text x.nm=n at*;have h3:=A1x n.1 x.ds;generalize n.1.text x.ds=d at*
 have h4:=A8m d.1 ⟨12,(n.2:Nat),(d.2:Nat),0,[]⟩;generalize d.1.put ⟨12,(n.2:Nat),(d.2:Nat),0,[]⟩=b at*;have h5:=A8m b.1 ⟨tag,(c.2:Nat),(b.2:Nat),0,[]⟩
 show(b.1.put ⟨tag,(c.2:Nat),(b.2:Nat),0,[]⟩).1.l.length<=_;omega
theorem B7m(s:LW)(x:IN):(s.con x).1.l.length<=s.l.length+4:=by
 unfold LW.con;split
 ·have h:=A8m (s.need (A4d x.n) 8) ⟨3,0,0,x.n,[]⟩;have h0:(s.need (A4d x.n) 8).l=s.l:=rfl;rw[h0]at h;omega
 split
 ·have h1:=A1x s x.tx;have h2:=A8m (s.text x.tx).1 ⟨8,((s.text x.tx).2:Nat),0,0,[]⟩;omega
 split
 ·have h:=A8m s ⟨5,0,0,x.n,[]⟩;omega
 show s.l.length<=_;omega
theorem C3i(s:LW)(x:IN):(s.wide x).1.l.length<=s.l.length+12:=by
 unfold LW.wide;split
 ·exact B6i (s.need (A3d x) 8) x 9 typeB
 split
 ·exact B6i (s.need (A3d x) 8) x 10 A3k
 have h:=A7h (s.need (B0x x) 8) x.cl (decide (x.op≠187));have h0:(s.need (B0x x) 8).l=s.l:=rfl;rw[h0]at h;omega
theorem D7h(s:LW)(p:Nat)(x:IN):(s.raw p x).1.l.length<=s.l.length+12:=by
 unfold LW.raw;split
 ·have h:=B7m (s.need (decide (x.cl=[]/\x.nm=[]/\x.m=0)) 8) x;have h0:(s.need (decide (x.cl=[]/\x.nm=[]/\x.m=0)) 8).l=s.l:=rfl;rw[h0]at h
  show((s.need (decide (x.cl=[]/\x.nm=[]/\x.m=0)) 8).con x).1.l.length<=_;omega
 split
 ·exact C3i s x
 split
 ·show s.l.length<=_;omega
 show s.l.length<=_;omega
theorem D1v(s:LW)(t:List UInt8):(s.slot t).1.l.length<=s.l.length+4:=by
 unfold LW.slot;split
 ·simp
 split
 ·simp
 split
 ·simp
 split
 ·simp
 split
 ·exact A7h _ _ _
 exact A7h (s.need (A2g t) 8) t true
end
section
open Go.ChangeShapes Go.WideShapes Go.ChangeAt Go.RowKit Go.Maps
abbrev B3f:=92
abbrev A6e:=61
abbrev D5k:=90
def E1g(c:KV):Lit:= .string (keyBytes [.int .i64 c.tag,.int .i64 c.a,.int .i64 c.b,.int .i64 c.n,.string c.s])
structure KOk(c:KV):Prop where
 t:A4b c.tag
 a:A4b c.a
 b:A4b c.b
 n:A4b c.n
 s:c.s.length<=1099511627776
theorem D7m:A6e<Tryz.prog.types.size:=by
 have h:Nat.ble (A6e+1) Tryz.prog.types.size=true:=by kernel_rfl
 generalize Tryz.prog.types.size=n at*;exact Nat.lt_of_succ_le (Nat.le_of_ble_eq_true h)
theorem D6u:Tryz.prog.keyTypeAt 2 A6e=true:=by kernel_rfl
theorem D1q:laidOutB Tryz.prog=true:=by kernel_rfl
theorem B3x:Keyed Tryz.prog A6e:=Keyed.of_law (deep_law_laid D1q (m:=2) (by omega) D7m D6u (by rw[Tryz.underlying61]))
theorem B1g{c:KV}(h:KOk c):keyOf Tryz.prog A6e (.agg c.cells.toArray)=some (E1g c):=by
 have hi:∀(d:Nat) (x:Int),A4b x->Tryz.prog.keyLits (d+1) 3 [.int .i64 x]=some [.int .i64 x]:=fun d x hx=>by
  unfold Program.keyLits;rw[Tryz.underlying3];simp only;rw[if_pos ⟨trivial,hx⟩]
 have hi2:∀(d:Nat) (x:Int),A4b x->Tryz.prog.keyLits (d+1) 2 [.int .i64 x]=some [.int .i64 x]:=fun d x hx=>by
  unfold Program.keyLits;rw[Tryz.underlying2];simp only;rw[if_pos ⟨trivial,hx⟩]
 have hs:∀(d:Nat) (x:List UInt8),x.length<=1099511627776->Tryz.prog.keyLits (d+1) 9 [.string ⟨x.toArray⟩]=some [.string x]:=fun d x hx=>by
  unfold Program.keyLits;rw[Tryz.underlying9];simp only;rw[if_pos (by show x.toArray.size<=maxLen;rw[List.size_toArray];unfold maxLen;omega)]
 have h5:Tryz.prog.cellsOf A6e=5:=by kernel_rfl
 have h1:Tryz.prog.cellsOf 3=1:=by kernel_rfl
 have h2:Tryz.prog.cellsOf 9=1:=by kernel_rfl
 have h3:Tryz.prog.cellsOf 2=1:=by kernel_rfl
 have hl:∀d,Tryz.prog.keyLits (d+1+1) A6e c.cells=some [.int .i64 c.tag,.int .i64 c.a,.int .i64 c.b,.int .i64 c.n,.string c.s]:=fun d=>by
  unfold Program.keyLits;rw[Tryz.underlying61];simp only;rw[if_pos ⟨h5.symm,by kernel_rfl⟩];simp[KV.cells,h1,h2,h3,hi d _ h.t,hi d _ h.a,hi d _ h.b,hi2 d _ h.n,hs d _ h.s]
 have hf:Value.formed Tryz.prog A6e (.agg c.cells.toArray)=true:=by
  unfold Value.formed;rw[Tryz.underlying61];simp only;rw[h5];rfl
 obtain⟨d,hd⟩:∃d,Tryz.prog.types.size=d+1:=Nat.exists_eq_succ_of_ne_zero (fun e=>by
  have:Nat.beq Tryz.prog.types.size 0=false:=by kernel_rfl
  rw[e]at this
  cases this)
 unfold keyOf;rw[Tryz.underlying61];simp only;rw[hf,show Tryz.prog.keyType A6e=true by kernel_rfl,hd]
 show(if _ then(Tryz.prog.keyLits (d+1+1) A6e c.cells).map _ else none)=_
 rw[hl d];rfl
def C0h:Option Obj->Prop
 |some (.cells _ t _)=>t≠A6e/\t≠B3f
 |some (.map _ _)=>False
 |_=>True
structure A0u(B:Nat)(w w':World):Prop where
 os:w'.os=w.os
 tape:w'.tape=w.tape
 output:w'.output=w.output
 size:w.heap.size<=w'.heap.size
 block:∀k,k<w.heap.size->(k<B\/C0h w.heap[k]?)->w'.heap[k]? =w.heap[k]?
theorem A0u.refl(B:Nat)(w:World):A0u B w w:=⟨rfl,rfl,rfl,Nat.le_refl _,fun _ _ _=>rfl⟩
theorem A0u.trans{B:Nat}{w w1 w2:World}(h:A0u B w w1)(k:A0u B w1 w2):A0u B w w2:=
 ⟨k.os.trans h.os,k.tape.trans h.tape,k.output.trans h.output,Nat.le_trans h.size k.size,fun i hi hg=>by
  have h1:=h.block i hi hg;rw[k.block i (Nat.lt_of_lt_of_le hi h.size) (by rw[h1];exact hg),h1]⟩
theorem A0u.of{B:Nat}{w w1:World}(h:Below w.heap.size w w1):A0u B w w1:=⟨h.os,h.tape,h.output,h.size,fun k hk _=>h.block k hk⟩
theorem A0u.grown{B:Nat}{w w1:World}{row:Option Nat}(h:w.grownBy w1 row)(hr:∀k,row=some k->k<w.heap.size->B<=k/\¬C0h w.heap[k]?):A0u B w w1:=
 ⟨h.os,h.tape,h.output,h.size,fun k hk hg=>h.block k hk (fun e=>by
  obtain⟨h1,h2⟩:=hr k e.symm hk
  rcases hg with hg|hg
  ·omega
  exact h2 hg)⟩
theorem A0u.set{B:Nat}{w:World}{g:Nat}(h:B<=g/\¬C0h w.heap[g]?)(o:Nat)(v:Value):A0u B w (w.setCell ⟨g,o,none⟩ v):=
 ⟨rfl,rfl,rfl,by unfold World.setCell;simp,fun k hk hq=>by
  unfold World.setCell
  have hne:¬g=k:=by
   rintro rfl
   rcases hq with h1|h1
   ·omega
   exact h.2 h1
  simp[Array.getElem?_modify,hne]⟩
theorem A0u.below{B:Nat}{w0 w w':World}(h:A0u B w w')(hb:Below B w0 w)(hB:B<=w0.heap.size):Below B w0 w':=
 ⟨h.os.trans hb.os,h.tape.trans hb.tape,h.output.trans hb.output,Nat.le_trans hb.size h.size,fun k hk=>by
  rw[h.block k (Nat.lt_of_lt_of_le (Nat.lt_of_lt_of_le hk hB) hb.size) (.inl hk)];exact hb.block k hk⟩
theorem A0u.row{B:Nat}{w w':World}(h:A0u B w w'){g:Nat}{cs:Array Value}{t:TypeId}{fr:Nat×Nat}(hg:w.heap[g]? =some (.cells cs t fr))(h1:t≠A6e)(h2:t≠B3f):w'.heap[g]? =some (.cells cs t fr):=by
 rw[h.block g (Array.getElem?_eq_some_iff.1 hg).1 (.inr (by rw[hg];exact⟨h1,h2⟩))];exact hg
theorem A0u.own{B:Nat}{w w':World}{B':Nat}{e:TypeId}{size:Nat}{v:Value}{n:Nat}{xs:List Value}(h:w.ownsRow B' e size v n xs)(k:A0u B w w')(h1:e≠A6e)(h2:e≠B3f):w'.ownsRow B' e size v n xs:=by
 refine⟨h.1,?_⟩
 rcases h.2 with⟨h1,h2⟩|⟨b,cap,cur,hv,hb,hc,r⟩
 ·exact .inl ⟨h1,h2⟩
 exact .inr ⟨b,cap,cur,hv,hb,k.row hc h1 h2,r⟩
theorem A0u.vw{B:Nat}{w w':World}(h:A0u B w w')(hv:VW w)(h0:0<B):VW w':=by
 obtain⟨m,hm⟩:=hv;refine⟨m,?_⟩
 have hlt:0<w.heap.size:=by
  rcases Nat.eq_zero_or_pos w.heap.size with h1|h1
  ·exfalso;have:w.heap[0]? =none:=Array.getElem?_eq_none (by omega);simp[World.cell?,this]at hm
  exact h1
 rw[<-hm];unfold World.cell?;rw[h.block 0 hlt (.inl h0)]
def B2r(w:World)(b:Nat)(L:List KV):Prop:=
 ∃D,w.ownsMap Tryz.prog A6e (plainElem (H:=Unit) Tryz.prog 3) b L.length D/\∀c,KOk c->c.tag≠0->∀z,D.atKey (E1g c) z=(match B2g L c with|some i=> .lit (.int .i64 (i:Nat))|none=>z)
theorem B2r.lt{w:World}{b:Nat}{L:List KV}(h:B2r w b L):b<w.heap.size:=by obtain⟨D,h,_⟩:=h;exact h.lt
theorem B2r.kept{w w':World}{b:Nat}{L:List KV}{row:Option Nat}(h:B2r w b L)(hg:w.grownBy w' row)(hne:some b≠row):B2r w' b L:=by
 obtain⟨D,h,hd⟩:=h;exact⟨D,h.kept hg hne,hd⟩
theorem B2r.setCell{w:World}{b:Nat}{L:List KV}(h:B2r w b L){a:Addr}(ha:b≠a.block)(u:Value):B2r (w.setCell a u) b L:=by
 obtain⟨D,h,hd⟩:=h;exact⟨D,h.setCell ha u,hd⟩
theorem B2r.below{w w':World}{b:Nat}{L:List KV}(h:B2r w b L)(hb:Below w.heap.size w w'):B2r w' b L:=h.kept (row:=none) ⟨hb.os,hb.tape,hb.output,hb.size,fun k hk _=>hb.block k hk⟩ (by simp)
structure LoX(w:World)(B g:Nat)(s:LW)(a:Option Addr)(cap b:Nat):Prop where
 k:C6z w g (.slice a s.l.length cap) (.map (some b)) (.int .i64 s.e) B3f
 o:w.ownsRow B A6e 5 (.slice a s.l.length cap) s.l.length (s.l.flatMap KV.cells)
 m:B2r w b s.l
 bB:B<=b
 gB:B<=g
 B0:0<B
 vw:VW w
def LoS(w:World)(B g:Nat)(s:LW):Prop:=∃a cap b,LoX w B g s a cap b
theorem LoX.bg{w:World}{B g:Nat}{s:LW}{a:Option Addr}{cap b:Nat}(h:LoX w B g s a cap b):b≠g:=by
 rintro rfl;obtain⟨D,⟨es,cl,hm,_⟩,_⟩:=h.m;have:=h.k;unfold C6z at this;rw[hm]at this
 cases this
theorem LoX.nk{w:World}{B g:Nat}{s:LW}{a:Option Addr}{cap b:Nat}(h:LoX w B g s a cap b):B<=g/\¬C0h w.heap[g]? :=by
 refine⟨h.gB,?_⟩;have:=h.k;unfold C6z at this;rw[this];exact fun hh=>hh.2 rfl
theorem LoX.nm{w:World}{B g:Nat}{s:LW}{a:Option Addr}{cap b:Nat}(h:LoX w B g s a cap b):B<=b/\¬C0h w.heap[b]? :=by
 refine⟨h.bB,?_⟩;obtain⟨D,⟨es,cl,hm,_⟩,_⟩:=h.m;rw[hm];exact fun hh=>hh
theorem LoX.below{w w':World}{B g:Nat}{s:LW}{a:Option Addr}{cap b:Nat}(h:LoX w B g s a cap b)(hb:Below w.heap.size w w'):LoX w' B g s a cap b:=
 ⟨h.k.below hb,A0x h.o hb,h.m.below hb,h.bB,h.gB,h.B0,h.vw.below hb⟩
theorem LoS.below{w w':World}{B g:Nat}{s:LW}(h:LoS w B g s)(hb:Below w.heap.size w w'):LoS w' B g s:=by
 obtain⟨a,cap,b,h⟩:=h;exact⟨a,cap,b,h.below hb⟩
theorem LoX.lt{w:World}{B g:Nat}{s:LW}{a:Option Addr}{cap b:Nat}(h:LoX w B g s a cap b):g<w.heap.size:=h.k.box.lt
theorem LoS.lt{w:World}{B g:Nat}{s:LW}(h:LoS w B g s):g<w.heap.size:=by
 obtain⟨a,cap,b,h⟩:=h;exact h.lt
theorem LoX.set2{w:World}{B g:Nat}{s:LW}{a:Option Addr}{cap b:Nat}(h:LoX w B g s a cap b)(e2:Int):LoX (w.setCell ⟨g,2,none⟩ (.int .i64 e2)) B g ⟨s.l,e2⟩ a cap b:=
 ⟨A1k h.k 2 _,A0k h.o (A1p h.k 2 _) (by decide),h.m.setCell h.bg _,h.bB,h.gB,h.B0,(A0u.set h.nk 2 _).vw h.vw h.B0⟩
def B1y(v:Value)(B g:Nat)(s:LW)(w:World)(e:Ending)(w':World):Prop:=e= .returned v/\LoS w' B g s/\A0u B w w'
end
end Go.Proofs.YtclpkipaehpkdaaGreatDoor
