/- asm: own texts, merged (wip/merge3.py). No condition. -/
import Derived.Test.YtclpkipaehpkdaaGreatDoorQ10AsmLifts
import Derived.Test.YtclpkipaehpkdaaGreatDoorQ01AsmLifts
set_option linter.unusedVariables false
set_option linter.unusedSimpArgs false
set_option maxRecDepth 100000
set_option maxHeartbeats 64000000
namespace Go.Proofs.YtclpkipaehpkdaaGreatDoor
section
open Go.ChangeShapes Go.WideShapes Go.ChangeAt Go.RowKit
def A3y(r:RW):IN:=⟨r.op,0,0,[],[],[],[]⟩
def A7f(op:Nat):Bool:=decide (op=178)||(decide (op=179)||(decide (op=180)||decide (op=181)))
def B0k(op:Nat):Bool:=decide (op=182)||decide (op=184)
def B3r(K:List KV)(L:List RW)(r:RW):IN:=
 if A0q r.op=7 then{A3y r with n:=(((B5t L r.a).getD 0:Nat):Int)}
 else if A0q r.op=8 then{A3y r with n:=r.a,m:=r.b}
 else if A0q r.op=5 then B0n K (A3y r) r.a.toNat
 else if A0q r.op=6 then
  (if r.op=20 then B0n K (A3y r) r.a.toNat
   else if A7f r.op then C7v K (A3y r) r.a 9
   else if B0k r.op then C7v K (A3y r) r.a 10
   else{A3y r with cl:=(A0s K r.a).1})
 else{A3y r with n:=r.a}
def C6j(K:List KV)(r:RW):Bool:=
 if A0q r.op=7 then true
 else if A0q r.op=8 then true
 else if A0q r.op=5 then B1d (B0n K (A3y r) r.a.toNat)
 else if A0q r.op=6 then
  (if r.op=20 then B1d (B0n K (A3y r) r.a.toNat)
   else if A7f r.op then C0i typeB K r.a 9
   else if B0k r.op then C0i A3x K r.a 10
   else aclsB K r.a (decide (r.op≠187)))
 else true
theorem A0n:(Tryz.prog.info? A1f).map (·.size)=some 7:=by kernel_rfl
theorem A9a(x:IN):x.cells.toArray.all (·.oneCell')=true:=by
 simp[IN.cells,Value.oneCell']
structure InS(w0 w:World)(g:Nat)(a:Option Addr)(n cap:Nat)(K:List KV)(er:Int)(gr gz gx:Nat)(r:RW)(x:IN)(C:Bool)(er0:Int):Prop where
 k:LfI w g a n cap K er gx x
 raw:w.heap[gr]? =some (.cells r.cells.toArray 118 (0,0))
 zero:∃z:IN,A3w gz z w
 keep:A0j (fun k=>k=g) w0 w
 e:er=0↔er0=0∧C=true
 hr:w0.heap.size≤gr
 hz:w0.heap.size≤gz
 hx:w0.heap.size≤gx
 nzx:gz≠gx
 nrx:gr≠gx
 nrz:gr≠gz
theorem InS.put{w0 w:World}{g:Nat}{a:Option Addr}{n cap:Nat}{K:List KV}{er:Int}{gr gz gx:Nat}{r:RW}{x x':IN}{C:Bool}{er0:Int}(h:InS w0 w g a n cap K er gr gz gx r x C er0)(o:Nat)(v:Value)(hi:A3w gx x' (w.setCell ⟨gx,o,none⟩ v)):
  InS w0 (w.setCell ⟨gx,o,none⟩ v) g a n cap K er gr gz gx r x' C er0:=by
 obtain⟨z,hz⟩:=h.zero;exact⟨h.k.put o v hi,A1c h.raw h.nrx _ _,⟨z,A1c hz h.nzx _ _⟩,h.keep.set (.inr h.hx) o v,h.e,h.hr,h.hz,h.hx,h.nzx,h.nrx,h.nrz⟩
theorem InS.call{w0 w w':World}{g:Nat}{a:Option Addr}{n cap:Nat}{K:List KV}{er er':Int}{gr gz gx:Nat}{r:RW}{x x':IN}{er0:Int}{C:Bool}(h:InS w0 w g a n cap K er gr gz gx r x true er0)(hk:LfI w' g a n cap K er' gx x')(hp:A0j (fun k=>k=g∨k=gx) w w')(he:er'=0↔er=0∧C=true)(hg:g<w0.heap.size):
  InS w0 w' g a n cap K er' gr gz gx r x' C er0:=by
 obtain⟨z,hz⟩:=h.zero;have h1:=h.hr;have h2:=h.hz;refine⟨hk,hp.row h.raw (fun e=> ?_),⟨z,hp.row hz (fun e=> ?_)⟩,?_,by rw[he,h.e];simp,h.hr,h.hz,h.hx,h.nzx,h.nrx,h.nrz⟩
 ·rcases e with e|e
  ·omega
  ·exact h.nrx e
 ·rcases e with e|e
  ·omega
  ·exact h.nzx e
 ·have h3:=h.hx
  exact⟨hp.os.trans h.keep.os,hp.tape.trans h.keep.tape,hp.output.trans h.keep.output,Nat.le_trans h.keep.size hp.size,fun i hi hgi=>by
   rw[hp.block i (Nat.lt_of_lt_of_le hi h.keep.size) (fun e=>by rcases e with e|e;exact hgi e;omega),h.keep.block i hi hgi]⟩
theorem InS.calln{w0 w w':World}{g:Nat}{a:Option Addr}{n cap:Nat}{K:List KV}{er er':Int}{gr gz gx:Nat}{r:RW}{x:IN}{er0:Int}{C:Bool}(h:InS w0 w g a n cap K er gr gz gx r x true er0)(hk:LfS w' g a n cap K er')(hp:A0j (fun k=>k=g) w w')(he:er'=0↔er=0∧C=true)(hg:g<w0.heap.size):
  InS w0 w' g a n cap K er' gr gz gx r x C er0:=
 h.call ⟨hk,h.k.i.keep hp (fun e=>h.k.ne e),h.k.ne,h.k.z,h.k.off⟩ (hp.weak fun k _ e=> .inl e) he hg
theorem A0h{P:Program}{ops:Array Oper}{rest:List Oper}{o:Oper}{a:Act}{w:World}{Q:Exit→Act→World→Prop}(hgd:Region.wanted o (yielded ops a.tmps)=true)(ty:TypeId)(x:Operand)(ho:o.op= .load ty x)
  (g:Nat) (hx:a.eval x= .pointer (some ⟨g,0,none⟩)) (t:TypeId) (cs:Array Value) (fr:Nat×Nat) (d:TypeDesc) (hg:w.heap[g]? =some (.cells cs t fr))
  (hu:P.underlying ty=some d) (hd:(match d with| .struct _| .array _ _=>true|_=>false)=true) (hi:(P.info? ty).map (·.size)=some cs.size)
  (h:wpList P ops Q rest (a.put o.dst (.agg cs)) w):wpList P ops Q (o::rest) a w:=by
 refine wpList_step fun K hK=> ?_
 rw[if_pos hgd];exact wp_load_row ty x ho g hx t cs fr d hg hu hd hi (hK _ _ h)
theorem A0j.setrow{p:Nat→Prop}{w w1:World}(h:A0j p w w1){g:Nat}(hg:p g∨w.heap.size≤g)(cs:Array Value):A0j p w (w1.setRow g cs):=
 ⟨h.os,h.tape,h.output,by have:=h.size;simpa[World.setRow]using this,fun k hk hq=>by
  rw[←h.block k hk hq];refine setRow_other w1 g k cs ?_;rintro rfl
  rcases hg with h1|h1
  ·exact hq h1
  ·omega⟩
theorem InS.done{w0 w:World}{g:Nat}{a:Option Addr}{n cap:Nat}{K:List KV}{er:Int}{gr gz gx:Nat}{r:RW}{x:IN}{C:Bool}{er0:Int}(h:InS w0 w g a n cap K er gr gz gx r x C er0)(h0:LfS w0 g a n cap K er0)(cs:Array Value):
  LfR (.agg x.cells.toArray) g a n cap K er0 C w0 (.returned (.agg x.cells.toArray)) (w.setRow gz cs):=
 ⟨rfl,⟨er,h.e,h0.newer h.k.k (Nat.le_refl _) ((A0j.refl _ _).setrow (.inl h.hz) cs)⟩,h.keep.setrow (.inr h.hz) cs⟩
theorem InS.turn{w0 w w':World}{g:Nat}{a:Option Addr}{n cap:Nat}{K:List KV}{er:Int}{gr gz gx:Nat}{r:RW}{x:IN}{C:Bool}{er0:Int}(h:InS w0 w g a n cap K er gr gz gx r x C er0)(hb:Below w.heap.size w w'):InS w0 w' g a n cap K er gr gz gx r x C er0:=by
 obtain⟨z,hz⟩:=h.zero;exact⟨h.k.below hb,A0c h.raw hb,⟨z,A0c hz hb⟩,h.keep.trans (A0j.of hb),h.e,h.hr,h.hz,h.hx,h.nzx,h.nrx,h.nrz⟩
theorem D2g(w:World)(g:Nat)(a:Option Addr)(n cap:Nat)(K:List KV)(er:Int)(r:RW)(L:List RW)(b:Nat)(h:LfS w g a n cap K er)(hp:A8h w b L)(hb:b≠g)(hop:r.op<256)(hra:A3m r.a)(hc:A0q r.op=5∨A0q r.op=6→0≤r.a∧r.a<1048576):
  Calls Tryz.prog 55 #[.pointer (some ⟨g,0,none⟩),.agg #[.int .i64 r.pos,.int .u8 (r.op:Nat),.int .i64 r.a,.int .i64 r.b],.map (some b)] w (LfR (.agg (B3r K L r).cells.toArray) g a n cap K er (C6j K r) w):=by
 have H:=Lib.hid h;have HP:=Lib.hid hp;have hHF:=fun w=>B1x w r.op hop
 have hbl:=hp.lt;obtain⟨V,hV⟩:∃V,V=B3r K L r:=⟨_,rfl⟩;obtain⟨C,hC⟩:∃C,C=C6j K r:=⟨_,rfl⟩;have HV:=hV;have HC:=hC;unfold B3r at HV;unfold C6j at HC;rw[←hV,←hC];clear hV hC
 obtain⟨f,hf⟩:∃f,f=A0q r.op:=⟨_,rfl⟩;rw[←hf]at HV HC hc;have hHF2:∀w,Calls Tryz.prog 102 #[.int .u8 (r.op:Nat)] w (B0f (.int .i64 (f:Nat)) w):=fun w=>by rw[hf];exact hHF w
 have HF:=Lib.hid hHF2
 have HI0:InS w (((w.alloc (.cells r.cells.toArray 118)).alloc (.cells (⟨0,0,0,[],[],[],[]⟩:IN).cells.toArray A1f)).alloc (.cells (A3y r).cells.toArray A1f)) g a n cap K er w.heap.size (w.heap.size+1) (w.heap.size+1+1) r (A3y r) true er:=by
  have b1:=(((Below.refl w.heap.size w).alloc (Nat.le_refl _) (.cells r.cells.toArray 118)).alloc (by simp) (.cells (⟨0,0,0,[],[],[],[]⟩:IN).cells.toArray A1f)).alloc (by simp;omega) (.cells (A3y r).cells.toArray A1f)
  have h9:=h.lt;have h8:=h.g0
  have hof:B1e a n (w.heap.size+1+1):=fun hn b off e hh=>by
   obtain⟨b',off',e2,hlt,_⟩:=h.ks.2 hn;rw[e]at e2
   cases e2
   omega
  refine⟨⟨h.below b1,?_,by omega,by omega,hof⟩,?_,⟨⟨0,0,0,[],[],[],[]⟩,?_⟩,A0j.of b1,by simp,by omega,by omega,by omega,by omega,by omega,by omega⟩
  ·unfold A3w;have:=heap_alloc_last ((w.alloc (.cells r.cells.toArray 118)).alloc (.cells (⟨0,0,0,[],[],[],[]⟩:IN).cells.toArray A1f)) (.cells (A3y r).cells.toArray A1f);simpa using this
  ·rw[Below.heap_alloc _ _ _ (by simp;omega),Below.heap_alloc _ _ _ (by simp)];exact heap_alloc_last w _
  ·unfold A3w;rw[Below.heap_alloc _ _ _ (by simp)];have:=heap_alloc_last (w.alloc (.cells r.cells.toArray 118)) (.cells (⟨0,0,0,[],[],[],[]⟩:IN).cells.toArray A1f);simpa using this
 have HI:=Lib.hid HI0;have HVV:=Lib.hid HV;have HCC:=Lib.hid HC;have HHC:=Lib.hid hc;have HRA:=Lib.hid hra;clear h hp hHF hHF2 HV HC hc hra hf HI0;go_enter Tryz.func55,Tryz.ntmps55
 go_upto_region 2 with fail
 change Hid (InS w (((w.alloc (.cells #[.int .i64 r.pos,.int .u8 (r.op:Nat),.int .i64 r.a,.int .i64 r.b] 118)).alloc (.cells #[.int .u8 0,.int .i64 0,.int .i64 0,.string ⟨#[]⟩,.string ⟨#[]⟩,.string ⟨#[]⟩,.string ⟨#[]⟩] 54)).alloc (.cells #[.int .u8 (r.op:Nat),.int .i64 0,.int .i64 0,.string ⟨#[]⟩,.string ⟨#[]⟩,.string ⟨#[]⟩,.string ⟨#[]⟩] 54)) g a n cap K er w.heap.size (w.heap.size+1) (w.heap.size+1+1) r (A3y r) true er)at HI
 generalize((w.alloc (.cells #[.int .i64 r.pos,.int .u8 (r.op:Nat),.int .i64 r.a,.int .i64 r.b] 118)).alloc (.cells #[.int .u8 0,.int .i64 0,.int .i64 0,.string ⟨#[]⟩,.string ⟨#[]⟩,.string ⟨#[]⟩,.string ⟨#[]⟩] 54)).alloc (.cells #[.int .u8 (r.op:Nat),.int .i64 0,.int .i64 0,.string ⟨#[]⟩,.string ⟨#[]⟩,.string ⟨#[]⟩,.string ⟨#[]⟩] 54)=W at HI⊢
 have r1:=A0a HI.out.raw 1 rfl;dsimp[RW.cells]at r1
 go_wp2_with fail
 refine(HF.out W).mono ?_;rintro e w1 ⟨rfl,hb1⟩;have HI1:=Lib.hid (HI.out.turn hb1);have HP1:=Lib.hid (HP.out.keep HI1.out.keep hb);have hs1:w.heap.size≤w1.heap.size:=HI1.out.keep.size
 have hgl:g<w.heap.size:=H.out.lt;have i0:=A0a HI1.out.k.i 0 rfl;have i1:=A0a HI1.out.k.i 1 rfl;have i2:=A0a HI1.out.k.i 2 rfl;have i3:=A0a HI1.out.k.i 3 rfl
 have q1:=A0a HI1.out.raw 1 rfl;have q2:=A0a HI1.out.raw 2 rfl;have q3:=A0a HI1.out.raw 3 rfl;dsimp[RW.cells,IN.cells,A3y]at i0 i1 i2 i3 q1 q2 q3;clear HI r1 hb1 HP HF hop
 obtain⟨-,-,-,-,-,-,-,f1,f2,f3,-,-,-⟩:=HI1.out.k.i.box;by_cases f7:f=7
 ·have e7:((f:Int)==7)=true:=by subst f7;rfl
  have HV2:=Lib.hid (HVV.out.trans (if_pos f7));have HC2:=Lib.hid (HCC.out.trans (if_pos f7));have hlk:=D7x HP1.out r.a HRA.out;obtain rfl:C=true:=HC2.out;clear f7 HVV HCC HC2 HHC
  go_upto_region 23 with fail
  have HI2:=Lib.hid (HI1.out.put 1 _ (HI1.out.k.i.set1 (((B5t L r.a).getD 0:Nat):Int)));obtain⟨z,hz⟩:=HI2.out.zero;have HZ:=Lib.hid hz;clear hz;refine wp_region_lit ?_
  refine A0h rfl _ _ rfl _ rfl _ _ _ _ HI2.out.k.i Tryz.underlying54 rfl A0n ?_;refine wpList_store_row rfl _ _ _ rfl _ _ rfl rfl _ _ HZ.out A0n rfl (A9a _) ?_
  go_wp2_with fail
  refine bodyPost_ret (results_cell_row rfl _ _ (w.heap.size+1) A1f (IN.cells _).toArray (0,0) _ rfl (setRow_heap _ _ _ _ _ _ HZ.out) Tryz.underlying54 rfl A0n) rfl ?_;rw[HV2.out]
  exact HI2.out.done H.out _
 have e7:((f:Int)==7)=false:=by rw[beq_eq_false_iff_ne];omega
 replace HVV:=Lib.hid (HVV.out.trans (if_neg f7));replace HCC:=Lib.hid (HCC.out.trans (if_neg f7));by_cases f8:f=8
 ·have e8:((f:Int)==8)=true:=by subst f8;rfl
  have HV2:=Lib.hid (HVV.out.trans (if_pos f8));have HC2:=Lib.hid (HCC.out.trans (if_pos f8));obtain rfl:C=true:=HC2.out;clear f7 f8 HVV HCC HC2 HHC HP1 i0 i3 q1
  go_upto_region 7 with fail
  have ld2:∀w':World,w'.heap[w.heap.size]? =some (.cells r.cells.toArray 118 (0,0))→w'.cell? ⟨w.heap.size,2,none⟩=some (.int .i64 r.a):=fun w' h=>A0a h 2 rfl
  have ld3:∀w':World,w'.heap[w.heap.size]? =some (.cells r.cells.toArray 118 (0,0))→w'.cell? ⟨w.heap.size,3,none⟩=some (.int .i64 r.b):=fun w' h=>A0a h 3 rfl
  have HID:=Lib.hid (HI1.out.turn ((Below.refl _ _).drew));have hSw:w1.drew.heap[w.heap.size]? =some (.cells r.cells.toArray 118 (0,0)):=HID.out.raw
  have fd1:w1.drew.frozen? ⟨w.heap.size+1+1,1,none⟩=false:=HID.out.k.i.box.f1
  refine A0g (fun wx=>wx.heap[w.heap.size]? =some (.cells r.cells.toArray 118 (0,0))) (.of [(0,true),(1,true),(2,true),(3,true),(4,true),(5,false),(6,true),(7,false)] (.stir [])) (by kernel_rfl) (by kernel_rfl) (fun c a d v w h=>by cases d<;>exact h) ?_
  iterate 5
   refine A0b fun K hK=>tkF ?_
   go_simp
   try go_bits
   refine hK _ _ ?_;clear hK K
  have HI2:=Lib.hid (HID.out.put 1 _ (HID.out.k.i.set1 r.a));refine A0b fun K hK=>alF ?_
  go_step;have hS2:(w1.drew.setCell ⟨w.heap.size+1+1,1,none⟩ (.int .i64 r.a)).heap[w.heap.size]? =some (.cells r.cells.toArray 118 (0,0)):=HI2.out.raw;refine⟨hS2,hK _ _ ?_⟩
  clear hK K hSw fd1 HID HI1;have hSw:=hS2;clear hS2;have fd2:(w1.drew.setCell ⟨w.heap.size+1+1,1,none⟩ (.int .i64 r.a)).frozen? ⟨w.heap.size+1+1,2,none⟩=false:=HI2.out.k.i.box.f2
  iterate 1
   refine A0b fun K hK=>tkF ?_
   go_simp
   try go_bits
   refine hK _ _ ?_;clear hK K
  have HI3:=Lib.hid (HI2.out.put 2 _ (HI2.out.k.i.set2 r.b));refine A0b fun K hK=>alF ?_
  go_step
  have hS3:((w1.drew.setCell ⟨w.heap.size+1+1,1,none⟩ (.int .i64 r.a)).setCell ⟨w.heap.size+1+1,2,none⟩ (.int .i64 r.b)).heap[w.heap.size]? =some (.cells r.cells.toArray 118 (0,0)):=HI3.out.raw
  refine⟨hS3,hK _ _ ?_⟩;clear hK K hSw fd2 HI2
  refine A0m (fun y=>y=(w1.drew.setCell ⟨w.heap.size+1+1,1,none⟩ (.int .i64 r.a)).setCell ⟨w.heap.size+1+1,2,none⟩ (.int .i64 r.b)) (fun y hy=>hy▸hS3) rfl ?_
  refine A0p (fun y hy=> ?_);subst hy;clear hS3 ld2 ld3 f1 f2 f3
  go_upto_region 23 with fail
  obtain⟨z,hz⟩:=HI3.out.zero;have HZ:=Lib.hid hz;clear hz;refine wp_region_lit ?_;refine A0h rfl _ _ rfl _ rfl _ _ _ _ HI3.out.k.i Tryz.underlying54 rfl A0n ?_
  refine wpList_store_row rfl _ _ _ rfl _ _ rfl rfl _ _ HZ.out A0n rfl (A9a _) ?_
  go_wp2_with fail
  refine bodyPost_ret (results_cell_row rfl _ _ (w.heap.size+1) A1f (IN.cells _).toArray (0,0) _ rfl (setRow_heap _ _ _ _ _ _ HZ.out) Tryz.underlying54 rfl A0n) rfl ?_;rw[HV2.out]
  exact HI3.out.done H.out _
 have e8:((f:Int)==8)=false:=by rw[beq_eq_false_iff_ne];omega
 replace HVV:=Lib.hid (HVV.out.trans (if_neg f8));replace HCC:=Lib.hid (HCC.out.trans (if_neg f8));by_cases f5:f=5∨f=6
 ·obtain⟨a0,a1⟩:=HHC.out f5;obtain⟨at_,hat⟩:∃at_,at_=r.a.toNat:=⟨_,rfl⟩;have hra:r.a=(at_:Int):=by omega
  have hat2:at_<1048576:=by omega
  have HCON:=Lib.hid (C5j w1 g a n cap K er (w.heap.size+1+1) (A3y r) at_ hat2 HI1.out.k);have HRAT:=Lib.hid hra;rw[←hat]at HVV HCC;rw[←hra]at HCON;clear hra hat hat2 a0 a1
  by_cases f6:f=5
  ·have e5:((f:Int)==5)=true:=by subst f6;rfl
   have HV2:=Lib.hid (HVV.out.trans (if_pos f6));have HC2:=Lib.hid (HCC.out.trans (if_pos f6));obtain rfl:C=B1d (B0n K (A3y r) at_):=HC2.out
   clear f7 f8 f5 f6 HVV HCC HC2 HHC HP1 i0 i1 i2 i3 q1 f1 f2 f3
   go_wp2_with fail
   refine HCON.out.mono ?_;rintro e w2 ⟨rfl,hI2,k2⟩;have HI2:=Lib.hid (HI1.out.call hI2 k2 (A1q (by decide)) hgl);clear hI2 k2 HCON HI1 q2 q3
   go_upto_region 23 with fail
   obtain⟨z,hz⟩:=HI2.out.zero;have HZ:=Lib.hid hz;clear hz;refine wp_region_lit ?_;refine A0h rfl _ _ rfl _ rfl _ _ _ _ HI2.out.k.i Tryz.underlying54 rfl A0n ?_
   refine wpList_store_row rfl _ _ _ rfl _ _ rfl rfl _ _ HZ.out A0n rfl (A9a _) ?_
   go_wp2_with fail
   refine bodyPost_ret (results_cell_row rfl _ _ (w.heap.size+1) A1f (IN.cells _).toArray (0,0) _ rfl (setRow_heap _ _ _ _ _ _ HZ.out) Tryz.underlying54 rfl A0n) rfl ?_;rw[HV2.out]
   exact HI2.out.done H.out _
  have e5:((f:Int)==5)=false:=by rw[beq_eq_false_iff_ne];omega
  have e6:((f:Int)==6)=true:=by rw[beq_iff_eq];omega
  replace HVV:=Lib.hid (HVV.out.trans ((if_neg f6).trans (if_pos (show f=6 by omega))));replace HCC:=Lib.hid (HCC.out.trans ((if_neg f6).trans (if_pos (show f=6 by omega))))
  clear f7 f8 f5 f6 HHC HP1 i0 i1 i2 i3;by_cases o20:r.op=20
  ·have e20:((r.op:Int)==20)=true:=by rw[o20];rfl
   have HV2:=Lib.hid (HVV.out.trans (if_pos o20));have HC2:=Lib.hid (HCC.out.trans (if_pos o20));obtain rfl:C=B1d (B0n K (A3y r) at_):=HC2.out;clear o20 HVV HCC HC2 f1 f2 f3
   go_wp2_with fail
   refine HCON.out.mono ?_;rintro e w2 ⟨rfl,hI2,k2⟩;have HI2:=Lib.hid (HI1.out.call hI2 k2 (A1q (by decide)) hgl);clear hI2 k2 HCON HI1 q2 q3 q1
   go_upto_region 23 with fail
   obtain⟨z,hz⟩:=HI2.out.zero;have HZ:=Lib.hid hz;clear hz;refine wp_region_lit ?_;refine A0h rfl _ _ rfl _ rfl _ _ _ _ HI2.out.k.i Tryz.underlying54 rfl A0n ?_
   refine wpList_store_row rfl _ _ _ rfl _ _ rfl rfl _ _ HZ.out A0n rfl (A9a _) ?_
   go_wp2_with fail
   refine bodyPost_ret (results_cell_row rfl _ _ (w.heap.size+1) A1f (IN.cells _).toArray (0,0) _ rfl (setRow_heap _ _ _ _ _ _ HZ.out) Tryz.underlying54 rfl A0n) rfl ?_;rw[HV2.out]
   exact HI2.out.done H.out _
  have e20:((r.op:Int)==20)=false:=by rw[beq_eq_false_iff_ne];omega
  replace HVV:=Lib.hid (HVV.out.trans (if_neg o20));replace HCC:=Lib.hid (HCC.out.trans (if_neg o20));clear HCON o20
  have HMB:=Lib.hid (fun t fis p hen hp=>C3a w1 g a n cap K er (w.heap.size+1+1) (A3y r) r.a t fis p hen hp HI1.out.k);by_cases o178:r.op=178
  ·have e178:((r.op:Int)==178)=true:=by rw[o178];rfl
   have hM:A7f r.op=true:=by rw[o178];rfl
   have HV2:=Lib.hid (HVV.out.trans (if_pos hM));have HC2:=Lib.hid (HCC.out.trans (if_pos hM));obtain rfl:C=C0i typeB K r.a 9:=HC2.out
   have HM2:=Lib.hid (HMB.out 9 23 typeB (fun _ _=>rfl) (fun W s hs hv=>A3q W s hs hv));clear hM HVV HCC HC2 HMB f1 f2 f3 o178
   go_wp2_with fail
   refine HM2.out.mono ?_;rintro e w2 ⟨rfl,hI2,k2⟩;have HI2:=Lib.hid (HI1.out.call hI2 k2 (A1q (by decide)) hgl);clear hI2 k2 HM2 HI1 q2 q3 q1
   go_upto_region 23 with fail
   obtain⟨z,hz⟩:=HI2.out.zero;have HZ:=Lib.hid hz;clear hz;refine wp_region_lit ?_;refine A0h rfl _ _ rfl _ rfl _ _ _ _ HI2.out.k.i Tryz.underlying54 rfl A0n ?_
   refine wpList_store_row rfl _ _ _ rfl _ _ rfl rfl _ _ HZ.out A0n rfl (A9a _) ?_
   go_wp2_with fail
   refine bodyPost_ret (results_cell_row rfl _ _ (w.heap.size+1) A1f (IN.cells _).toArray (0,0) _ rfl (setRow_heap _ _ _ _ _ _ HZ.out) Tryz.underlying54 rfl A0n) rfl ?_;rw[HV2.out]
   exact HI2.out.done H.out _
  have e178:((r.op:Int)==178)=false:=by rw[beq_eq_false_iff_ne];omega
  by_cases o179:r.op=179
  ·have e179:((r.op:Int)==179)=true:=by rw[o179];rfl
   have hM:A7f r.op=true:=by rw[o179];rfl
   have HV2:=Lib.hid (HVV.out.trans (if_pos hM));have HC2:=Lib.hid (HCC.out.trans (if_pos hM));obtain rfl:C=C0i typeB K r.a 9:=HC2.out
   have HM2:=Lib.hid (HMB.out 9 23 typeB (fun _ _=>rfl) (fun W s hs hv=>A3q W s hs hv));clear hM HVV HCC HC2 HMB f1 f2 f3 o178 o179
   go_wp2_with fail
   refine HM2.out.mono ?_;rintro e w2 ⟨rfl,hI2,k2⟩;have HI2:=Lib.hid (HI1.out.call hI2 k2 (A1q (by decide)) hgl);clear hI2 k2 HM2 HI1 q2 q3 q1
   go_upto_region 23 with fail
   obtain⟨z,hz⟩:=HI2.out.zero;have HZ:=Lib.hid hz;clear hz;refine wp_region_lit ?_;refine A0h rfl _ _ rfl _ rfl _ _ _ _ HI2.out.k.i Tryz.underlying54 rfl A0n ?_
   refine wpList_store_row rfl _ _ _ rfl _ _ rfl rfl _ _ HZ.out A0n rfl (A9a _) ?_
   go_wp2_with fail
   refine bodyPost_ret (results_cell_row rfl _ _ (w.heap.size+1) A1f (IN.cells _).toArray (0,0) _ rfl (setRow_heap _ _ _ _ _ _ HZ.out) Tryz.underlying54 rfl A0n) rfl ?_;rw[HV2.out]
   exact HI2.out.done H.out _
  have e179:((r.op:Int)==179)=false:=by rw[beq_eq_false_iff_ne];omega
  by_cases o180:r.op=180
  ·have e180:((r.op:Int)==180)=true:=by rw[o180];rfl
   have hM:A7f r.op=true:=by rw[o180];rfl
   have HV2:=Lib.hid (HVV.out.trans (if_pos hM));have HC2:=Lib.hid (HCC.out.trans (if_pos hM));obtain rfl:C=C0i typeB K r.a 9:=HC2.out
   have HM2:=Lib.hid (HMB.out 9 23 typeB (fun _ _=>rfl) (fun W s hs hv=>A3q W s hs hv));clear hM HVV HCC HC2 HMB f1 f2 f3 o178 o179 o180
   go_wp2_with fail
   refine HM2.out.mono ?_;rintro e w2 ⟨rfl,hI2,k2⟩;have HI2:=Lib.hid (HI1.out.call hI2 k2 (A1q (by decide)) hgl);clear hI2 k2 HM2 HI1 q2 q3 q1
   go_upto_region 23 with fail
   obtain⟨z,hz⟩:=HI2.out.zero;have HZ:=Lib.hid hz;clear hz;refine wp_region_lit ?_;refine A0h rfl _ _ rfl _ rfl _ _ _ _ HI2.out.k.i Tryz.underlying54 rfl A0n ?_
   refine wpList_store_row rfl _ _ _ rfl _ _ rfl rfl _ _ HZ.out A0n rfl (A9a _) ?_
   go_wp2_with fail
   refine bodyPost_ret (results_cell_row rfl _ _ (w.heap.size+1) A1f (IN.cells _).toArray (0,0) _ rfl (setRow_heap _ _ _ _ _ _ HZ.out) Tryz.underlying54 rfl A0n) rfl ?_;rw[HV2.out]
   exact HI2.out.done H.out _
  have e180:((r.op:Int)==180)=false:=by rw[beq_eq_false_iff_ne];omega
  by_cases o181:r.op=181
  ·have e181:((r.op:Int)==181)=true:=by rw[o181];rfl
   have hM:A7f r.op=true:=by rw[o181];rfl
   have HV2:=Lib.hid (HVV.out.trans (if_pos hM));have HC2:=Lib.hid (HCC.out.trans (if_pos hM));obtain rfl:C=C0i typeB K r.a 9:=HC2.out
   have HM2:=Lib.hid (HMB.out 9 23 typeB (fun _ _=>rfl) (fun W s hs hv=>A3q W s hs hv));clear hM HVV HCC HC2 HMB f1 f2 f3 o178 o179 o180 o181
   go_wp2_with fail
   refine HM2.out.mono ?_;rintro e w2 ⟨rfl,hI2,k2⟩;have HI2:=Lib.hid (HI1.out.call hI2 k2 (A1q (by decide)) hgl);clear hI2 k2 HM2 HI1 q2 q3 q1
   go_upto_region 23 with fail
   obtain⟨z,hz⟩:=HI2.out.zero;have HZ:=Lib.hid hz;clear hz;refine wp_region_lit ?_;refine A0h rfl _ _ rfl _ rfl _ _ _ _ HI2.out.k.i Tryz.underlying54 rfl A0n ?_
   refine wpList_store_row rfl _ _ _ rfl _ _ rfl rfl _ _ HZ.out A0n rfl (A9a _) ?_
   go_wp2_with fail
   refine bodyPost_ret (results_cell_row rfl _ _ (w.heap.size+1) A1f (IN.cells _).toArray (0,0) _ rfl (setRow_heap _ _ _ _ _ _ HZ.out) Tryz.underlying54 rfl A0n) rfl ?_;rw[HV2.out]
   exact HI2.out.done H.out _
  have e181:((r.op:Int)==181)=false:=by rw[beq_eq_false_iff_ne];omega
  have hM:A7f r.op=false:=by simp[A7f,o178,o179,o180,o181]
  replace HVV:=Lib.hid (HVV.out.trans (if_neg (by rw[hM];decide)));replace HCC:=Lib.hid (HCC.out.trans (if_neg (by rw[hM];decide)));clear hM o178 o179 o180 o181;by_cases o182:r.op=182
  ·have e182:((r.op:Int)==182)=true:=by rw[o182];rfl
   have hM:B0k r.op=true:=by rw[o182];rfl
   have HV2:=Lib.hid (HVV.out.trans (if_pos hM));have HC2:=Lib.hid (HCC.out.trans (if_pos hM));obtain rfl:C=C0i A3x K r.a 10:=HC2.out
   have HM2:=Lib.hid (HMB.out 10 52 A3x (fun _ _=>rfl) (fun W s hs hv=>A5k W s hs hv));clear hM HVV HCC HC2 HMB f1 f2 f3 o182
   go_wp2_with fail
   refine HM2.out.mono ?_;rintro e w2 ⟨rfl,hI2,k2⟩;have HI2:=Lib.hid (HI1.out.call hI2 k2 (A1q (by decide)) hgl);clear hI2 k2 HM2 HI1 q2 q3 q1
   go_upto_region 23 with fail
   obtain⟨z,hz⟩:=HI2.out.zero;have HZ:=Lib.hid hz;clear hz;refine wp_region_lit ?_;refine A0h rfl _ _ rfl _ rfl _ _ _ _ HI2.out.k.i Tryz.underlying54 rfl A0n ?_
   refine wpList_store_row rfl _ _ _ rfl _ _ rfl rfl _ _ HZ.out A0n rfl (A9a _) ?_
   go_wp2_with fail
   refine bodyPost_ret (results_cell_row rfl _ _ (w.heap.size+1) A1f (IN.cells _).toArray (0,0) _ rfl (setRow_heap _ _ _ _ _ _ HZ.out) Tryz.underlying54 rfl A0n) rfl ?_;rw[HV2.out]
   exact HI2.out.done H.out _
  have e182:((r.op:Int)==182)=false:=by rw[beq_eq_false_iff_ne];omega
  by_cases o184:r.op=184
  ·have e184:((r.op:Int)==184)=true:=by rw[o184];rfl
   have hM:B0k r.op=true:=by rw[o184];rfl
   have HV2:=Lib.hid (HVV.out.trans (if_pos hM));have HC2:=Lib.hid (HCC.out.trans (if_pos hM));obtain rfl:C=C0i A3x K r.a 10:=HC2.out
   have HM2:=Lib.hid (HMB.out 10 52 A3x (fun _ _=>rfl) (fun W s hs hv=>A5k W s hs hv));clear hM HVV HCC HC2 HMB f1 f2 f3 o182 o184
   go_wp2_with fail
   refine HM2.out.mono ?_;rintro e w2 ⟨rfl,hI2,k2⟩;have HI2:=Lib.hid (HI1.out.call hI2 k2 (A1q (by decide)) hgl);clear hI2 k2 HM2 HI1 q2 q3 q1
   go_upto_region 23 with fail
   obtain⟨z,hz⟩:=HI2.out.zero;have HZ:=Lib.hid hz;clear hz;refine wp_region_lit ?_;refine A0h rfl _ _ rfl _ rfl _ _ _ _ HI2.out.k.i Tryz.underlying54 rfl A0n ?_
   refine wpList_store_row rfl _ _ _ rfl _ _ rfl rfl _ _ HZ.out A0n rfl (A9a _) ?_
   go_wp2_with fail
   refine bodyPost_ret (results_cell_row rfl _ _ (w.heap.size+1) A1f (IN.cells _).toArray (0,0) _ rfl (setRow_heap _ _ _ _ _ _ HZ.out) Tryz.underlying54 rfl A0n) rfl ?_;rw[HV2.out]
   exact HI2.out.done H.out _
  have e184:((r.op:Int)==184)=false:=by rw[beq_eq_false_iff_ne];omega
  have hM:B0k r.op=false:=by simp[B0k,o182,o184]
  replace HVV:=Lib.hid (HVV.out.trans (if_neg (by rw[hM];decide)));replace HCC:=Lib.hid (HCC.out.trans (if_neg (by rw[hM];decide)));clear hM o182 o184
  have e187:((r.op:Int) !=187)=decide (r.op≠187):=by
   rw[Bool.eq_iff_iff];simp;omega
  have HCL:=Lib.hid (A8d w1 g a n cap K er r.a (decide (r.op≠187)) HI1.out.k.k);obtain rfl:C=aclsB K r.a (decide (r.op≠187)):=HCC.out;generalize decide (r.op≠187)=dc at*
  clear HCC HMB f1 f2 f3
  go_wp2_with fail
  refine HCL.out.mono ?_;rintro e w2 ⟨rfl,hI2,k2⟩;have HI2:=Lib.hid (HI1.out.calln hI2 k2 (A1q (by decide)) hgl);have f3:=HI2.out.k.i.box.f3;have c3:=HI2.out.k.i.box.c3
  clear hI2 k2 HCL HI1 q2 q3 q1
  go_upto_region 23 with fail
  have HI3:=Lib.hid (HI2.out.put 3 _ (HI2.out.k.i.set3 (A0s K r.a).1));obtain⟨z,hz⟩:=HI3.out.zero;have HZ:=Lib.hid hz;clear hz;refine wp_region_lit ?_
  refine A0h rfl _ _ rfl _ rfl _ _ _ _ HI3.out.k.i Tryz.underlying54 rfl A0n ?_;refine wpList_store_row rfl _ _ _ rfl _ _ rfl rfl _ _ HZ.out A0n rfl (A9a _) ?_
  go_wp2_with fail
  refine bodyPost_ret (results_cell_row rfl _ _ (w.heap.size+1) A1f (IN.cells _).toArray (0,0) _ rfl (setRow_heap _ _ _ _ _ _ HZ.out) Tryz.underlying54 rfl A0n) rfl ?_;rw[HVV.out]
  exact HI3.out.done H.out _
 have e5:((f:Int)==5)=false:=by rw[beq_eq_false_iff_ne];omega
 have e6:((f:Int)==6)=false:=by rw[beq_eq_false_iff_ne];omega
 replace HVV:=Lib.hid (HVV.out.trans ((if_neg (show ¬f=5 by omega)).trans (if_neg (show ¬f=6 by omega))))
 replace HCC:=Lib.hid (HCC.out.trans ((if_neg (show ¬f=5 by omega)).trans (if_neg (show ¬f=6 by omega))));obtain rfl:C=true:=HCC.out;clear f7 f8 f5 HCC HHC HP1
 go_upto_region 23 with fail
 have HI2:=Lib.hid (HI1.out.put 1 _ (HI1.out.k.i.set1 r.a));obtain⟨z,hz⟩:=HI2.out.zero;have HZ:=Lib.hid hz;clear hz;refine wp_region_lit ?_
 refine A0h rfl _ _ rfl _ rfl _ _ _ _ HI2.out.k.i Tryz.underlying54 rfl A0n ?_;refine wpList_store_row rfl _ _ _ rfl _ _ rfl rfl _ _ HZ.out A0n rfl (A9a _) ?_
 go_wp2_with fail
 refine bodyPost_ret (results_cell_row rfl _ _ (w.heap.size+1) A1f (IN.cells _).toArray (0,0) _ rfl (setRow_heap _ _ _ _ _ _ HZ.out) Tryz.underlying54 rfl A0n) rfl ?_;rw[HVV.out];exact HI2.out.done H.out _
structure UT where
 fr:Int
 tt:Int
 pl:Int
 cl:List UInt8
def UT.cells(t:UT):List Value:=[.int .i64 t.fr,.int .i64 t.tt,.int .i64 t.pl,.string ⟨t.cl.toArray⟩]
theorem UT.cells_length(t:UT):t.cells.length=4:=rfl
structure UP where
 pl:Int
 la:Option Addr
 ln:Nat
 lc:Nat
 loc:List (List UInt8)
 sa:Option Addr
 sn:Nat
 sc:Nat
 stk:List (List UInt8)
def UP.cells(p:UP):List Value:=[.int .i64 p.pl,.slice p.la p.ln p.lc,.slice p.sa p.sn p.sc]
theorem UP.cells_length(p:UP):p.cells.length=3:=rfl
def UP.p(p:UP):UP:=⟨p.pl,none,0,0,p.loc,none,0,0,p.stk⟩
structure UP.Rd(p:UP)(w:World):Prop where
 loc:Sl A7h w p.la p.ln p.loc
 stk:Sl A7h w p.sa p.sn p.stk
theorem UP.Rd.below{p:UP}{w w':World}(h:p.Rd w)(hb:Below w.heap.size w w'):p.Rd w':=⟨h.loc.below hb,h.stk.below hb⟩
structure UP.Own(p:UP)(w:World)(B:Nat):Prop where
 loc:w.ownsRow B 9 1 (.slice p.la p.ln p.lc) p.ln (p.loc.map A7h)
 stk:w.ownsRow B 9 1 (.slice p.sa p.sn p.sc) p.sn (p.stk.map A7h)
theorem UP.Own.mono{p:UP}{w:World}{B B':Nat}(h:p.Own w B)(hB:B'≤B):p.Own w B':=⟨A2k h.loc hB,A2k h.stk hB⟩
theorem UP.Own.keepP{p:UP}{q:Nat→Prop}{w w':World}{B:Nat}(h:p.Own w B)(k:A0j q w w')(hq:∀x,q x→x<B∨w.heap.size≤x):p.Own w' B:=⟨A4i h.loc k hq,A4i h.stk k hq⟩
theorem UP.Own.keptT{p:UP}{w w':World}{B:Nat}{e:TypeId}(h:p.Own w B)(k:A3a e w w')(hne:9≠e):p.Own w' B:=⟨A0z h.loc k hne,A0z h.stk k hne⟩
theorem UP.Own.rd{p:UP}{w:World}{B:Nat}(h:p.Own w B):p.Rd w:=by
 obtain⟨a,c,e,hs,_⟩:=Sl.ofOwn h.loc;obtain⟨a',c',e',hs',_⟩:=Sl.ofOwn h.stk
 cases e
 cases e'
 exact⟨hs,hs'⟩
structure UM where
 st:Bool
 nm:List UInt8
 ds:List UInt8
 sk:Int
 lo:Int
 ca:Option Addr
 cn:Nat
 cc:Nat
 code:List IN
 ta:Option Addr
 tn:Nat
 tc:Nat
 traps:List UT
 ma:Option Addr
 mn:Nat
 mc:Nat
 maps:List UP
def UM.cells(m:UM):List Value:=[.bool m.st,.string ⟨m.nm.toArray⟩,.string ⟨m.ds.toArray⟩,.int .i64 m.sk,.int .i64 m.lo,.slice m.ca m.cn m.cc,.slice m.ta m.tn m.tc,.slice m.ma m.mn m.mc]
theorem UM.cells_length(m:UM):m.cells.length=8:=rfl
def UM.p(m:UM):UM:=⟨m.st,m.nm,m.ds,m.sk,m.lo,none,0,0,m.code,none,0,0,m.traps,none,0,0,m.maps.map UP.p⟩
structure UM.Rd(m:UM)(w:World):Prop where
 code:Ss 7 IN.cells w m.ca m.cn m.code
 traps:Ss 4 UT.cells w m.ta m.tn m.traps
 maps:Ss 3 UP.cells w m.ma m.mn m.maps
 each:∀p∈m.maps,p.Rd w
theorem UM.Rd.below{m:UM}{w w':World}(h:m.Rd w)(hb:Below w.heap.size w w'):m.Rd w':=⟨h.code.below hb,h.traps.below hb,h.maps.below hb,fun p hp=>(h.each p hp).below hb⟩
structure UM.Own(m:UM)(w:World)(B:Nat):Prop where
 code:w.ownsRow B 54 7 (.slice m.ca m.cn m.cc) m.cn (m.code.flatMap IN.cells)
 traps:w.ownsRow B 85 4 (.slice m.ta m.tn m.tc) m.tn (m.traps.flatMap UT.cells)
 maps:w.ownsRow B 88 3 (.slice m.ma m.mn m.mc) m.mn (m.maps.flatMap UP.cells)
 each:∀p∈m.maps,p.Own w B
theorem UM.Own.mono{m:UM}{w:World}{B B':Nat}(h:m.Own w B)(hB:B'≤B):m.Own w B':=⟨A2k h.code hB,A2k h.traps hB,A2k h.maps hB,fun p hp=>(h.each p hp).mono hB⟩
theorem UM.Own.keepP{m:UM}{q:Nat→Prop}{w w':World}{B:Nat}(h:m.Own w B)(k:A0j q w w')(hq:∀x,q x→x<B∨w.heap.size≤x):m.Own w' B:=⟨A4i h.code k hq,A4i h.traps k hq,A4i h.maps k hq,fun p hp=>(h.each p hp).keepP k hq⟩
theorem UM.Own.keptT{m:UM}{w w':World}{B:Nat}{e:TypeId}(h:m.Own w B)(k:A3a e w w')(h1:54≠e)(h2:85≠e)(h3:88≠e)(h4:9≠e):m.Own w' B:=⟨A0z h.code k h1,A0z h.traps k h2,A0z h.maps k h3,fun p hp=>(h.each p hp).keptT k h4⟩
theorem UM.Own.rd{m:UM}{w:World}{B:Nat}(h:m.Own w B):m.Rd w:=by
 obtain⟨a,c,e,hs,_⟩:=Ss.ofOwn IN.cells_length (by decide) h.code;obtain⟨a',c',e',hs',_⟩:=Ss.ofOwn UT.cells_length (by decide) h.traps
 obtain⟨a'',c'',e'',hs'',_⟩:=Ss.ofOwn UP.cells_length (by decide) h.maps
 cases e
 cases e'
 cases e''
 exact⟨hs,hs',hs'',fun p hp=>(h.each p hp).rd⟩
structure UF where
 st:Bool
 nm:List UInt8
 ds:List UInt8
def UF.cells(f:UF):List Value:=[.bool f.st,.string ⟨f.nm.toArray⟩,.string ⟨f.ds.toArray⟩]
theorem UF.cells_length(f:UF):f.cells.length=3:=rfl
structure UU where
 nm:List UInt8
 su:List UInt8
 fa:Option Addr
 fn:Nat
 fc:Nat
 fields:List UF
 ma:Option Addr
 mn:Nat
 mc:Nat
 methods:List UM
def UU.cells(u:UU):List Value:=[.string ⟨u.nm.toArray⟩,.string ⟨u.su.toArray⟩,.slice u.fa u.fn u.fc,.slice u.ma u.mn u.mc]
def UU.p(u:UU):UU:=⟨u.nm,u.su,none,0,0,u.fields,none,0,0,u.methods.map UM.p⟩
structure UU.Rd(u:UU)(w:World):Prop where
 fields:Ss 3 UF.cells w u.fa u.fn u.fields
 methods:Ss 8 UM.cells w u.ma u.mn u.methods
 each:∀m∈u.methods,m.Rd w
theorem UU.Rd.below{u:UU}{w w':World}(h:u.Rd w)(hb:Below w.heap.size w w'):u.Rd w':=⟨h.fields.below hb,h.methods.below hb,fun m hm=>(h.each m hm).below hb⟩
structure UU.Own(u:UU)(w:World)(B:Nat):Prop where
 fields:w.ownsRow B 52 3 (.slice u.fa u.fn u.fc) u.fn (u.fields.flatMap UF.cells)
 methods:w.ownsRow B 59 8 (.slice u.ma u.mn u.mc) u.mn (u.methods.flatMap UM.cells)
 each:∀m∈u.methods,m.Own w B
theorem UU.Own.rd{u:UU}{w:World}{B:Nat}(h:u.Own w B):u.Rd w:=by
 obtain⟨a,c,e,hs,_⟩:=Ss.ofOwn UF.cells_length (by decide) h.fields;obtain⟨a',c',e',hs',_⟩:=Ss.ofOwn UM.cells_length (by decide) h.methods
 cases e
 cases e'
 exact⟨hs,hs',fun p hp=>(h.each p hp).rd⟩
theorem D7d:StE 55 54 (.agg #[.int .u8 0,.int .i64 0,.int .i64 0,.string ⟨#[]⟩,.string ⟨#[]⟩,.string ⟨#[]⟩,.string ⟨#[]⟩]) 7 88:=⟨by kernel_rfl,by kernel_rfl,rfl⟩
theorem C8v:StE 56 85 (.agg #[.int .i64 0,.int .i64 0,.int .i64 0,.string ⟨#[]⟩]) 4 40:=⟨by kernel_rfl,by kernel_rfl,rfl⟩
theorem D8a:StE 57 88 (.agg #[.int .i64 0,.slice none 0 0,.slice none 0 0]) 3 56:=⟨by kernel_rfl,by kernel_rfl,rfl⟩
theorem C9s:StE 30 59 (.agg #[.bool false,.string ⟨#[]⟩,.string ⟨#[]⟩,.int .i64 0,.int .i64 0,.slice none 0 0,.slice none 0 0,.slice none 0 0]) 8 128:=⟨by kernel_rfl,by kernel_rfl,rfl⟩
theorem D1h:StE 29 52 (.agg #[.bool false,.string ⟨#[]⟩,.string ⟨#[]⟩]) 3 40:=⟨by kernel_rfl,by kernel_rfl,rfl⟩
def B0z(K:List KV)(L:List RW)(cn:Nat)(t:KT):UT:=⟨(plV L cn t.fr false:Nat),(plV L cn t.tt true:Nat),(plV L cn t.pl false:Nat),if t.cl=0 then []else(A0s K t.cl).1⟩
def B2v(K:List KV)(L:List RW)(cn:Nat)(t:KT):Bool:=plC L cn t.fr false&&(plC L cn t.tt true&&(plC L cn t.pl false&&(decide (t.cl=0)||aclsB K t.cl false)))
def D4v(K:List KV)(L:List RW)(cn:Nat)(p:KP):UP:=⟨(plV L cn p.pl false:Nat),none,0,0,p.loc.map (A1v K),none,0,0,p.stk.map (A1v K)⟩
def C7y(K:List KV)(L:List RW)(cn:Nat)(p:KP):Bool:=plC L cn p.pl false&&(p.loc.all (A5v K)&&p.stk.all (A5v K))
def B1j(K:List KV)(m:KM):UM:=
 ⟨decide (m.fl=8),A1p K m.nm,A1p K m.ds,m.st,m.lo,none,0,0,(A1g m.code).2.map (B3r K (A1g m.code).2),none,0,0,m.traps.map (B0z K (A1g m.code).2 m.cn),none,0,0,m.maps.map (D4v K (A1g m.code).2 m.cn)⟩
def B0j(K:List KV)(m:KM):Bool:=
 (A7v (A1p K m.nm)&&A3x (A1p K m.ds))&&(decide ((A1g m.code).1=0)&&((A1g m.code).2.all (C6j K)&&(m.traps.all (B2v K (A1g m.code).2 m.cn)&&m.maps.all (C7y K (A1g m.code).2 m.cn))))
abbrev A0v:=59
structure D2e(D W:World)(gk gm gl ga gz g go:Nat)(m:KM)(la:Option Addr)(ln lc:Nat)(L:List RW)(b:Nat)(z:UM):Prop where
 s:D6h W gm gl ga gk g m la ln lc L b
 z:W.heap[gz]? =some (.cells z.cells.toArray A0v (0,0))
 rs:Rs W la ln L
 og:B1e la ln g
 oo:B1e la ln go
 d:m.Rd D
 db:Below D.heap.size D W
 dg:D.heap.size≤g
 dgo:D.heap.size≤go
 ms:gm≠go
 ls:gl≠go
 am:ga≠go
 ks:gk≠go
 zs:gz≠go
 bs:b≠go
 zg:gz≠g
 gg:g<W.heap.size
 gs:go<W.heap.size
 ne:go≠g
abbrev GG(g go:Nat):Nat→Prop:=fun k=>k=g∨k=go
section
variable {D W w:World} {gk gm gl ga gz g go:Nat} {m:KM} {la:Option Addr} {ln lc:Nat} {L:List RW} {b:Nat} {z:UM}
theorem D2e.see(h:D2e D W gk gm gl ga gz g go m la ln lc L b z)(k:A0j (GG g go) W w):D6h w gm gl ga gk g m la ln lc L b:=by
 have key:∀(x:Nat) (o:Obj),W.heap[x]? =some o→x≠g→x≠go→¬GG g go x:=fun x o _ h1 h2 hp=>by
  rcases hp with h3|h3
  ·exact h1 h3
  ·exact h2 h3
 refine⟨k.row h.s.m (key _ _ h.s.m h.s.nm h.ms),k.row h.s.l (key _ _ h.s.l h.s.nl h.ls),k.row h.s.a (key _ _ h.s.a h.s.na h.am),k.row h.s.k (key _ _ h.s.k h.s.nk h.ks),?_,h.s.len,h.s.nm,h.s.nl,h.s.na,h.s.nk,h.s.nb⟩
 obtain⟨es,clock,hb,_⟩:=h.s.p;exact h.s.p.keep k (key _ _ hb h.s.nb h.bs)
theorem D2e.zw(h:D2e D W gk gm gl ga gz g go m la ln lc L b z)(k:A0j (GG g go) W w):w.heap[gz]? =some (.cells z.cells.toArray A0v (0,0)):=
 k.row h.z (fun hp=>by rcases hp with h3|h3;exact h.zg h3;exact h.zs h3)
theorem D2e.rsw(h:D2e D W gk gm gl ga gz g go m la ln lc L b z)(k:A0j (GG g go) W w):Rs w la ln L:=
 k.ss h.rs (fun hn b off e hp=>by rcases hp with h3|h3;exact h.og hn b off e h3;exact h.oo hn b off e h3)
theorem D2e.rd(h:D2e D W gk gm gl ga gz g go m la ln lc L b z)(k:A0j (GG g go) W w):m.Rd w:=
 h.d.below (k.below h.db (Nat.le_refl _) (fun x hx=>by rcases hx with rfl|rfl;exact h.dg;exact h.dgo))
end
structure B7v(W w:World)(g go:Nat)(a:Option Addr)(n cap:Nat)(K:List KV)(er:Int)(x:UM):Prop where
 l:LfS w g a n cap K er
 k:A0j (GG g go) W w
 o:w.heap[go]? =some (.cells x.cells.toArray A0v (0,0))
 w:x.Own w W.heap.size
section
variable {W w w9:World} {g go:Nat} {a:Option Addr} {n cap:Nat} {K:List KV} {er er':Int} {x:UM}
theorem B7v.below(h:B7v W w g go a n cap K er x)(hb:Below w.heap.size w w9):B7v W w9 g go a n cap K er x:=
 ⟨h.l.below hb,h.k.trans (A0j.of hb),A0c h.o hb,h.w.keepP (A0j.of (p:=fun _=>False) hb) (fun _ hx=>hx.elim)⟩
theorem B7v.call(h:B7v W w g go a n cap K er x)(hl:LfS w9 g a n cap K er')(hk:A0j (fun k=>k=g) w w9)(hg:g<W.heap.size)(hne:go≠g):B7v W w9 g go a n cap K er' x:=
 ⟨hl,h.k.trans (hk.weak fun _ _ e=> .inl e),hk.row h.o hne,h.w.keepP hk (fun y hy=> .inl (by rw[hy];exact hg))⟩
theorem B7v.new(h:B7v W w g go a n cap K er x)(hl:LfS w9 g a n cap K er')(hk:A0j (fun k=>k=g∨w.heap.size≤k) w w9)(hg:g<W.heap.size)(hne:go≠g):B7v W w9 g go a n cap K er' x:=
 ⟨hl,h.k.trans (hk.weak fun k hk e=>by rcases e with e|e;exact .inl e;have:=h.k.size;omega),hk.row h.o (fun e=>by rcases e with e|e;exact hne e;have:=A0u h.o;omega),h.w.keepP hk (fun y hy=>by rcases hy with hy|hy;exact .inl (by rw[hy];exact hg);exact .inr hy)⟩
theorem B7v.app{e:TypeId}(h0:LfS W g a n cap K er')(h:B7v W w g go a n cap K er x)(hB:A0j (fun k=>W.heap.size≤k) w w9)(ht:A3a e w w9)(hme:A0v≠e)(o:Nat)(v:Value)(x':UM)
  (hc:x'.cells.toArray=x.cells.toArray.setIfInBounds o v) (hgo:go<W.heap.size) (hne:go≠g)
  (hw:x'.Own w9 W.heap.size) (hg0:0<go) (hoff:B1e a n go):B7v W (w9.setCell ⟨go,o,none⟩ v) g go a n cap K er x':=by
 have hl9:LfS w9 g a n cap K er:=h0.newer h.l (Nat.le_refl _) hB;have hk9:A0j (GG g go) W w9:=h.k.new hB
 have hs:A0j (fun k=>k=go) w9 (w9.setCell ⟨go,o,none⟩ v):=A0j.set (A0j.refl (fun k=>k=go) w9) (.inl rfl) o v;have ho9:=ht.2 _ _ _ _ h.o hme
 refine⟨hl9.keep hs (fun e=>hne e.symm) (fun e=>by omega) (fun hn b off e e2=>hoff hn b off e e2),hk9.trans (hs.weak fun _ _ e=> .inr e),?_,hw.keepP hs (fun y hy=> .inl (by rw[hy];exact hgo))⟩
 have:=A1d ho9 o v;rw[hc];exact this
theorem _root_.Go.Proofs.YtclpkipaehpkdaaGreatDoor.LfS.app9{e:TypeId}{x':UM}(h0:LfS W g a n cap K er')(h:B7v W w g go a n cap K er x)(hB:A0j (fun k=>W.heap.size≤k) w w9)(ht:A3a e w w9)(hw:x'.Own w9 W.heap.size)(hgo:go<W.heap.size)(hne:go≠g)(hg0:0<go)(hoff:B1e a n go)(hme:A0v≠e:=by decide):
  A0j (GG g go) W w9∧w9.heap[go]? =some (.cells x.cells.toArray A0v (0,0))∧∀(o:Nat) (v:Value),x'.cells.toArray=x.cells.toArray.setIfInBounds o v→B7v W (w9.setCell ⟨go,o,none⟩ v) g go a n cap K er x':=
 ⟨h.k.new hB,ht.2 _ _ _ _ h.o hme,fun o v hc=>B7v.app h0 h hB ht hme o v x' hc hgo hne hw hg0 hoff⟩
end
end
end Go.Proofs.YtclpkipaehpkdaaGreatDoor
