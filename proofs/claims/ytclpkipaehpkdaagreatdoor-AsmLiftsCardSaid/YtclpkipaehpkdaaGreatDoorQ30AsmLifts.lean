/- asm: own texts, merged (wip/merge3.py). No condition. -/
import Derived.Test.YtclpkipaehpkdaaGreatDoorQ29AsmLifts
set_option linter.unusedVariables false
set_option linter.unusedSimpArgs false
set_option maxRecDepth 100000
set_option maxHeartbeats 64000000
namespace Go.Proofs.YtclpkipaehpkdaaGreatDoor
section
open Go.ChangeShapes Go.WideShapes Go.ChangeAt Go.RowKit Go.Maps
theorem B1b(w:World)(st:Bool):Calls Tryz.prog 34 #[.bool st] w fun e w'=>e= .returned (.int .i64 (A3j st))∧w'=w:=by
 cases st
 ·go_enter Tryz.func34,Tryz.ntmps34
  go_wp2_with fail
  go_ret;exact⟨rfl,rfl⟩
 ·go_enter Tryz.func34,Tryz.ntmps34
  go_wp2_with fail
  go_ret;exact⟨rfl,rfl⟩
abbrev PLT:=89
theorem A8t(W:World)(B g gk ga gat:Nat)(s:LW)(l:List IN)(n most:Int)(hs:LoS W B g s)(hk:W.heap[gk]? =some (.cells #[.pointer (some ⟨g,0,none⟩)] PLT (0,0)))
  (ha:W.heap[ga]? =some (.cells #[.slice (some ⟨gat,0,none⟩) (l.length+1) (l.length+1)] 138 (0,0))) (hr:A6n W gat (A1r l l.length)) (hl:l.length≤4096) (hm:most≤l.length):
  Calls Tryz.prog 74 #[.int .i64 n,.int .i64 most,.pointer (some ⟨gk,0,none⟩),.pointer (some ⟨ga,0,none⟩)] W (B2r (.int .i64 (s.place l n most).2) B g (s.place l n most).1 W):=by
 have HN:=Lib.hid (A0y W B g s false 2 hs);have HS:=Lib.hid hs;have HR:=Lib.hid hr;have k0:=A0a hk 0 rfl;have a0:=A0a ha 0 rfl;obtain⟨R,hR⟩:∃R,R=s.place l n most:=⟨_,rfl⟩
 rw[←hR];unfold LW.place at hR;clear hs hr hk ha;by_cases h0:n<0
 ·have d0:decide (n<0)=true:=decide_eq_true h0;have HRR:=Lib.hid (hR.trans (if_pos (.inl h0)));clear hR h0;go_enter Tryz.func74,Tryz.ntmps74
  go_wp2_with fail
  refine HN.out.mono ?_;rintro e w1 ⟨rfl,h1,h2⟩
  go_wp2_with fail
  go_ret;rw[HRR.out];exact⟨rfl,h1,h2⟩
 ·have d0:decide (n<0)=false:=decide_eq_false h0;by_cases h1:most<n
  ·have d1:decide (most<n)=true:=decide_eq_true h1;have HRR:=Lib.hid (hR.trans (if_pos (.inr h1)));clear hR h0 h1;go_enter Tryz.func74,Tryz.ntmps74
   go_wp2_with fail
   refine HN.out.mono ?_;rintro e w1 ⟨rfl,h1,h2⟩
   go_wp2_with fail
   go_ret;rw[HRR.out];exact⟨rfl,h1,h2⟩
  ·have d1:decide (most<n)=false:=decide_eq_false h1
   have HRR:=Lib.hid (hR.trans (if_neg (fun h=>by rcases h with h|h;exact h0 h;exact h1 h)))
   obtain⟨t,ht⟩:∃t:Nat,n=(t:Int):=⟨n.toNat,by omega⟩;subst ht;have hta:(t:Int)<l.length+1:=by omega
   have pt:W.cell? ⟨gat,t,none⟩=some (.int .i64 (B2p l t:Nat)):=HR.out.cell (A8j l l.length t (by omega) (by omega));rw[Int.toNat_natCast]at HRR;generalize B2p l t=q at*;clear hR h0 h1
   go_enter Tryz.func74,Tryz.ntmps74
   go_wp2_with fail
   go_ret;rw[HRR.out];exact⟨rfl,HS.out,A0x.refl _ _⟩
abbrev FMT:=65
abbrev TrT:=123
abbrev MpT:=68
abbrev SlT:=174
def KP.lp(p:KP):KP:=⟨p.pl,none,0,0,p.loc,none,0,0,p.stk⟩
def KM.lp(m:KM):KM:=⟨m.fl,m.nm,m.ds,m.st,m.lo,none,0,0,m.code,none,0,0,m.traps,none,0,0,m.maps.map KP.lp⟩
structure KP.Ow(p:KP)(w:World)(B:Nat):Prop where
 loc:w.ownsRow B SlT 2 (.slice p.la p.ln p.lc) p.ln (p.loc.flatMap KS.cells)
 stk:w.ownsRow B SlT 2 (.slice p.sa p.sn p.sc) p.sn (p.stk.flatMap KS.cells)
theorem KP.Ow.keepL{p:KP}{B B':Nat}{w w':World}(h:p.Ow w B')(k:A0x B w w'):p.Ow w' B':=⟨A0x.own h.loc k (by decide) (by decide),A0x.own h.stk k (by decide) (by decide)⟩
theorem KP.Ow.keptT{p:KP}{B':Nat}{w w':World}{e:TypeId}(h:p.Ow w B')(k:A3a e w w')(h1:SlT≠e):p.Ow w' B':=⟨A0z h.loc k h1,A0z h.stk k h1⟩
theorem KP.Ow.mono{p:KP}{B B':Nat}{w:World}(h:p.Ow w B)(hB:B'≤B):p.Ow w B':=⟨A2k h.loc hB,A2k h.stk hB⟩
theorem KP.Ow.rd{p:KP}{w:World}{B:Nat}(h:p.Ow w B):p.Rd w:=by
 obtain⟨a,c,e,hs,_⟩:=Ss.ofOwn KS.cells_length (by decide) h.loc;obtain⟨a',c',e',hs',_⟩:=Ss.ofOwn KS.cells_length (by decide) h.stk
 cases e
 cases e'
 exact⟨hs,hs'⟩
theorem A3z.keptT{w w':World}{B:Nat}{e:TypeId}{v:Value}{m:Nat}{bs:List UInt8}(h:A3z w B v m bs)(hk:A3a e w w')(hne:5≠e):A3z w' B v m bs:=by
 rcases h with h|⟨g,C,rfl,hc,h⟩
 ·exact .inl (A0z h hk hne)
 ·have hc':=hk.2 _ _ _ _ hc hne;refine .inr ⟨g,C,rfl,hc',h.1,fun hn=> ?_⟩;obtain⟨b,off,ha,hlt,hcell⟩:=h.2 hn;simp only[Option.some.injEq,Addr.mk.injEq]at ha;obtain⟨rfl,rfl,_⟩:=ha
  refine⟨g,0,rfl,Nat.lt_of_lt_of_le hlt hk.1,fun i hi=> ?_⟩;rw[←hcell i hi];unfold World.cell?;rw[hc,hc']
structure KM.Ow(m:KM)(w:World)(B:Nat):Prop where
 code:A3z w B (.slice m.ca m.cn m.cc) m.cn m.code
 traps:w.ownsRow B TrT 4 (.slice m.ta m.tn m.tc) m.tn (m.traps.flatMap KT.cells)
 maps:w.ownsRow B MpT 3 (.slice m.ma m.mn m.mc) m.mn (m.maps.flatMap KP.cells)
 each:∀p∈m.maps,p.Ow w B
theorem KM.Ow.keepL{m:KM}{B B':Nat}{w w':World}(h:m.Ow w B')(k:A0x B w w'):m.Ow w' B':=⟨h.code.keepL k,A0x.own h.traps k (by decide) (by decide),A0x.own h.maps k (by decide) (by decide),fun p hp=>(h.each p hp).keepL k⟩
theorem KM.Ow.keptT{m:KM}{B':Nat}{w w':World}{e:TypeId}(h:m.Ow w B')(k:A3a e w w')(h1:5≠e)(h2:TrT≠e)(h3:MpT≠e)(h4:SlT≠e):m.Ow w' B':=⟨h.code.keptT k h1,A0z h.traps k h2,A0z h.maps k h3,fun p hp=>(h.each p hp).keptT k h4⟩
theorem KM.Ow.mono{m:KM}{B B':Nat}{w:World}(h:m.Ow w B)(hB:B'≤B):m.Ow w B':=⟨h.code.mono hB,A2k h.traps hB,A2k h.maps hB,fun p hp=>(h.each p hp).mono hB⟩
theorem KM.Ow.rd{m:KM}{w:World}{B:Nat}(h:m.Ow w B):m.Rd w:=by
 obtain⟨a,c,e,hs,hc⟩:=h.code.sl;obtain⟨a',c',e',hs',_⟩:=Ss.ofOwn KT.cells_length (by decide) h.traps;obtain⟨a'',c'',e'',hs'',_⟩:=Ss.ofOwn KP.cells_length (by decide) h.maps
 cases e
 cases e'
 cases e''
 exact⟨hs,hc,hs',hs'',fun p hp=>(h.each p hp).rd⟩
theorem KM.Ow.traps1{x:KM}{w w':World}{B:Nat}(h:x.Ow w B)(k:A3a TrT w w'){a:Option Addr}{n c:Nat}{t:KT}(ho:w'.ownsRow B TrT 4 (.slice a n c) n ((x.traps++[t]).flatMap KT.cells)):KM.Ow {x with ta:=a,tn:=n,tc:=c,traps:=x.traps++[t]} w' B:=
 ⟨h.code.keptT k (by decide),ho,A0z h.maps k (by decide),fun p hp=>(h.each p hp).keptT k (by decide)⟩
theorem KM.Ow.maps1{x:KM}{w w':World}{B:Nat}(h:x.Ow w B)(k:A3a MpT w w'){a:Option Addr}{n c:Nat}{p:KP}(hp:p.Ow w' B)(ho:w'.ownsRow B MpT 3 (.slice a n c) n ((x.maps++[p]).flatMap KP.cells)):KM.Ow {x with ma:=a,mn:=n,mc:=c,maps:=x.maps++[p]} w' B:=
 ⟨h.code.keptT k (by decide),A0z h.traps k (by decide),ho,fun q hq=>by
  rcases List.mem_append.1 hq with hq|hq
  ·exact(h.each q hq).keptT k (by decide)
  ·rw[List.mem_singleton.1 hq];exact hp⟩
theorem KM.Ow.code1{x:KM}{w:World}{B:Nat}(h:x.Ow w B){a:Option Addr}{n c:Nat}{bs:List UInt8}(ho:A3z w B (.slice a n c) n bs):KM.Ow {x with ca:=a,cn:=n,cc:=c,code:=bs} w B:=⟨ho,h.traps,h.maps,h.each⟩
structure MtH(w V:World)(B g gk gm gz:Nat)(m:UM)(s:LW):Prop where
 hs:LoS V B g s
 hk:A0x B w V
 k:V.heap[gk]? =some (.cells #[.pointer (some ⟨g,0,none⟩)] PLT (0,0))
 m:V.heap[gm]? =some (.cells m.cells.toArray A0v (0,0))
 z:V.heap[gz]? =some (.cells #[.int .i64 0,.int .i64 0,.int .i64 0,.int .i64 0,.int .i64 0,.slice none 0 0,.slice none 0 0,.slice none 0 0] FMT (0,0))
theorem MtH.call{w V V':World}{B g gk gm gz:Nat}{m:UM}{s s':LW}(h:MtH w V B g gk gm gz m s)(hs:LoS V' B g s')(hk:A0x B V V'):MtH w V' B g gk gm gz m s':=
 ⟨hs,h.hk.trans hk,hk.row h.k (by decide) (by decide),hk.row h.m (by decide) (by decide),hk.row h.z (by decide) (by decide)⟩
theorem MtH.below{w V V':World}{B g gk gm gz:Nat}{m:UM}{s:LW}(h:MtH w V B g gk gm gz m s)(hb:Below V.heap.size V V'):MtH w V' B g gk gm gz m s:=h.call (h.hs.below hb) (A0x.of hb)
structure MtJ(w V:World)(B g gk gm gz go:Nat)(m:UM)(x:KM)(s:LW):Prop where
 h:MtH w V B g gk gm gz m s
 o:V.heap[go]? =some (.cells x.cells.toArray FMT (0,0))
 w:x.Ow V w.heap.size
theorem MtJ.call{w V V':World}{B g gk gm gz go:Nat}{m:UM}{x:KM}{s s':LW}(h:MtJ w V B g gk gm gz go m x s)(hs:LoS V' B g s')(hk:A0x B V V'):MtJ w V' B g gk gm gz go m x s':=
 ⟨h.h.call hs hk,hk.row h.o (by decide) (by decide),h.w.keepL hk⟩
theorem MtJ.below{w V V':World}{B g gk gm gz go:Nat}{m:UM}{x:KM}{s:LW}(h:MtJ w V B g gk gm gz go m x s)(hb:Below V.heap.size V V'):MtJ w V' B g gk gm gz go m x s:=h.call (h.h.hs.below hb) (A0x.of hb)
theorem MtJ.put{w V:World}{B g gk gm gz go:Nat}{m:UM}{x x':KM}{s:LW}(h:MtJ w V B g gk gm gz go m x s)(hw:w.heap.size≤go)(h0:0<go)(hne:gz≠go)(o:Nat)(v:Value)(he:x.cells.toArray.setIfInBounds o v=x'.cells.toArray)(hx:x'.Ow V w.heap.size):
  MtJ w (V.setCell ⟨go,o,none⟩ v) B g gk gm gz go m x' s:=by
 have hkt:=A3v h.o o v
 exact⟨⟨h.h.hs.setO h.o (by decide) (by decide) h0 o v,h.h.hk.thenB ((Below.refl _ _).setCell hw v),hkt.2 _ _ _ _ h.h.k (by decide),hkt.2 _ _ _ _ h.h.m (by decide),A1c h.h.z hne o v⟩,
  by rw[←he];exact A1d h.o o v,hx.keptT hkt (by decide) (by decide) (by decide) (by decide)⟩
theorem MtJ.app{w V w9:World}{B g gk gm gz go:Nat}{m:UM}{x:KM}{s:LW}{ob:Obj}{e:TypeId}{size:Nat}{v:Value}{n:Nat}{xs:List Value}(h:MtJ w V B g gk gm gz go m x s)(hw0:0<w.heap.size)
  (ho:V.ownsRow w.heap.size e size v n xs) (hg:(V.alloc ob).grownBy w9 v.ownBlock) (hb:Below w.heap.size V w9) (h1:e≠A6h) (h2:e≠B3x) (h3:PLT≠e) (h4:A0v≠e) (h5:FMT≠e):
  MtH w w9 B g gk gm gz m s∧w9.heap[go]? =some (.cells x.cells.toArray FMT (0,0)):=by
 have hkt:=A3a.app ho hg;exact⟨⟨h.h.hs.app ho hg h1 h2 hw0,h.h.hk.thenB hb,hkt.2 _ _ _ _ h.h.k h3,hkt.2 _ _ _ _ h.h.m h4,hkt.2 _ _ _ _ h.h.z h5⟩,hkt.2 _ _ _ _ h.o h5⟩
theorem Ss.lowA{α:Type}{z:Nat}{enc:α→List Value}{w:World}{a:Option Addr}{n:Nat}{xs:List α}(h:Ss z enc w a n xs){B:Nat}(hB:w.heap.size≤B):D5d B a n:=by
 intro hn b off e;obtain⟨b',off',e',hlt,_⟩:=h.2 hn;rw[e]at e'
 cases e'
 omega
theorem Sl.lowA{α:Type}{enc:α→Value}{w:World}{a:Option Addr}{n:Nat}{xs:List α}(h:Sl enc w a n xs){B:Nat}(hB:w.heap.size≤B):D5d B a n:=by
 intro hn b off e;obtain⟨b',off',e',hlt,_⟩:=h.2 hn;rw[e]at e'
 cases e'
 omega
structure UP.Fit(p:UP):Prop where
 loc:p.loc.length≤1024
 stk:p.stk.length≤1024
 lt:∀t∈p.loc,t.length≤65536
 st:∀t∈p.stk,t.length≤65536
structure UM.Fit(m:UM):Prop where
 nm:m.nm.length≤65536
 ds:m.ds.length≤65536
 code:m.code.length≤4096
 ins:∀x∈m.code,A9c x
 traps:m.traps.length≤1024
 tr:∀t∈m.traps,t.cl.length≤65536
 maps:m.maps.length≤1024
 mp:∀p∈m.maps,p.Fit
theorem C7z:StE 62 TrT (.agg #[.int .i64 0,.int .i64 0,.int .i64 0,.int .i64 0]) 4 32:=⟨by kernel_rfl,by kernel_rfl,rfl⟩
theorem D5r:StE 63 MpT (.agg #[.int .i64 0,.slice none 0 0,.slice none 0 0]) 3 56:=⟨by kernel_rfl,by kernel_rfl,rfl⟩
theorem B4z:(Tryz.prog.info? FMT).map (·.size)=some 8:=by kernel_rfl
theorem C4j:(Tryz.prog.info? TrT).map (·.size)=some 4:=by kernel_rfl
theorem D1f(x:KM):x.cells.toArray.all (·.oneCell')=true:=by simp[KM.cells,Value.oneCell']
theorem D3x(x:KT):x.cells.toArray.all (·.oneCell')=true:=by simp[KT.cells,Value.oneCell']
theorem C7i(s:LW)(c:List IN)(l:List UT)(t:UT):s.traps c (l++[t])=((((s.traps c l).1).trap c t).1,(s.traps c l).2++[(((s.traps c l).1).trap c t).2]):=by
 induction l generalizing s with
 |nil=>rfl
 |cons x l ih=>
  rw[List.cons_append,LW.traps,LW.traps,ih];rfl
theorem D1a(s:LW)(c:List IN)(l:List UP)(t:UP):s.maps c (l++[t])=((((s.maps c l).1).map c t).1,(s.maps c l).2++[(((s.maps c l).1).map c t).2]):=by
 induction l generalizing s with
 |nil=>rfl
 |cons x l ih=>
  rw[List.cons_append,LW.maps,LW.maps,ih];rfl
theorem B5g(s:LW)(l:List IN)(n most:Int):(s.place l n most).1.l=s.l:=by
 unfold LW.place;split<;>rfl
theorem D1z(s:LW)(l:List IN)(t:UT):(s.trap l t).1.l.length≤s.l.length+4:=by
 unfold LW.trap;dsimp only;split
 ·simp only[B5g];omega
 ·have h:=A7r ((((s.place l t.fr (l.length-1)).1).place l t.tt l.length).1.place l t.pl (l.length-1)).1 t.cl false;simp only[B5g]at h;exact h
theorem B5j(s:LW)(c:List IN)(l:List UT):(s.traps c l).1.l.length≤s.l.length+4*l.length:=by
 induction l generalizing s with
 |nil=>exact Nat.le_refl _
 |cons x l ih=>
  rw[LW.traps];have h1:=D1z s c x;have h2:=ih (s.trap c x).1;simp only[List.length_cons];omega
theorem D6i(s:LW)(l:List IN)(t:UP):(s.map l t).1.l.length≤s.l.length+4*(t.loc.length+t.stk.length):=by
 unfold LW.map;dsimp only;have h1:=B1g (s.place l t.pl (l.length-1)).1 t.loc;have h2:=B1g ((s.place l t.pl (l.length-1)).1.slots t.loc).1 t.stk;simp only[B5g]at h1;omega
theorem C4e(s:LW)(c:List IN)(l:List UP)(h:∀p∈l,p.Fit):(s.maps c l).1.l.length≤s.l.length+8192*l.length:=by
 induction l generalizing s with
 |nil=>exact Nat.le_refl _
 |cons x l ih=>
  rw[LW.maps];have h1:=D6i s c x;have h2:=ih (s.map c x).1 (fun p hp=>h p (List.mem_cons_of_mem _ hp));have h3:=h x List.mem_cons_self;have h4:=h3.loc;have h5:=h3.stk
  simp only[List.length_cons];omega
theorem C3y(s:LW)(l:List IN):(s.code l).1.l.length≤s.l.length+12*l.length:=by
 unfold LW.code;dsimp only;have h:=B8f s 0 l;show((s.raws 0 l).1.goes l l).l.length≤_;rw[D8r];exact h
end
end Go.Proofs.YtclpkipaehpkdaaGreatDoor
