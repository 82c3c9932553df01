/- asm -/
import Derived.Test.YtclpkipaehpkdaaGreatDoorQ03AsmLowers
import Derived.Test.YtclpkipaehpkdaaGreatDoorQ05AsmLowers
import Derived.Test.YtclpkipaehpkdaaGreatDoorQ02AsmLowers
set_option linter.unusedVariables false
set_option linter.unusedSimpArgs false
set_option maxRecDepth 100000
set_option maxHeartbeats 64000000
namespace Go.Proofs.YtclpkipaehpkdaaGreatDoor
section
open Go.ChangeShapes Go.WideShapes Go.ChangeAt Go.RowKit
theorem A0a{w:World}{g:Nat}{C:Array Value}{t:TypeId}{fr:Nat×Nat}(h:w.heap[g]? =some (.cells C t fr))(k:Nat){v:Value}(hk:C[k]? =some v):w.cell? ⟨g,k,none⟩=some v:=by
 rw[cell_of_row w g k _ _ _ h];exact hk
theorem A1b{w:World}{g:Nat}{C:Array Value}{t:TypeId}(h:w.heap[g]? =some (.cells C t))(k:Nat):w.frozen? ⟨g,k,none⟩=false:=by
 unfold World.frozen?;rw[h];simp
theorem A0v{w:World}{g:Nat}{C:Array Value}{t:TypeId}{fr:Nat×Nat}(h:w.heap[g]? =some (.cells C t fr)):g<w.heap.size:=(Array.getElem?_eq_some_iff.1 h).1
theorem A0c{w w':World}{g:Nat}{o:Obj}(h:w.heap[g]? =some o)(hb:Below w.heap.size w w'):w'.heap[g]? =some o:=by rw[hb.block g (Array.getElem?_eq_some_iff.1 h).1];exact h
theorem A3t{w:World}{c:Nat}{cs:Array Value}{t:TypeId}{fr:Nat×Nat}(h:w.heap[c]? =some (.cells cs t fr))(o:Nat)(v:Value):A3a t w (w.setCell ⟨c,o,none⟩ v):=by
 refine⟨by unfold World.setCell;simp,fun i cs' t' fr' hi hne=> ?_⟩
 have hic:i≠c:=by
  rintro rfl;rw[h]at hi;simp at hi;exact hne hi.2.1.symm
 unfold World.setCell;have hne':¬c=i:=fun e=>hic e.symm
 simp[Array.getElem?_modify,hne',hi]
theorem A1d{w:World}{g h:Nat}{ob:Obj}(hg:w.heap[g]? =some ob)(hne:g≠h)(o:Nat)(v:Value):(w.setCell ⟨h,o,none⟩ v).heap[g]? =some ob:=by
 unfold World.setCell;have hne':¬h=g:=fun e=>hne e.symm
 simp[Array.getElem?_modify,hne',hg]
theorem C4x(w:World)(s:List UInt8)(hl:s.length<=65536):Calls Tryz.prog 116 #[.string ⟨s.toArray⟩] w (D2a (A3k s) w):=by
 have HB0:=hzz (Below.refl w.heap.size w)
 cases s with
 |nil=>
  have hT:A3k []=false:=rfl;rw[hT];clear hT;go_enter Tryz.func116,Tryz.ntmps116
  go_wp2_with fail
  go_ret3;exact⟨⟨_,_,rfl⟩,HB0.out⟩
 |cons c0 r=>
 have hix0:(({data:=(c0::r).toArray}:ByteArray)[0]'(by rw[A4n];simp)).toNat=c0.toNat:=rfl;by_cases h40:c0=40
 ·have q40:((c0.toNat:Int)==40)=true:=by rw[h40];rfl
  have hM:A3k (c0::r)=C3x (A9j 16 r):=by rw[h40];exact B7j r
  have hrl:r.length<=65536:=by simp at hl;omega
  have hfr0:=fun w'=>show(Instr.slice 9 (.string ⟨(c0::r).toArray⟩) (some (.int .i64 1)) none none).run Tryz.prog w'= .ok (.string ⟨r.toArray⟩) w' from A7e w' (c0::r) 1 (by simp) (by simp;omega)
  rw[hM];obtain⟨A0,hA0⟩:=exz (A9j 16 r);have HA0:=hzz hA0;rw[<-hA0];obtain⟨T,hT⟩:=exz (C3x A0);have HT0:=hzz hT;rw[<-hT];clear h40 hl hA0 hT hM;go_enter Tryz.func116,Tryz.ntmps116
  go_wp2_with fail
  simp only[show((c0.toNat:Int) !=40)=false by rw[bne,q40];rfl];clear hfr0 hix0 q40
  go_loopg [6,5] 17 (fun gn sv av wr=>∃(k:Nat) (r:List UInt8) (L:List (List UInt8)) (a:Option Addr) (c:Nat),k<=16/\gn=17-k/\sv= .string ⟨r.toArray⟩/\av= .slice a k c/\r.length<=65536/\Hid (A9j (16-k) r=A0)/\Hid (wr.ownsRow w.heap.size 9 1 (.slice a k c) k (L.map A6r))/\Hid (Below w.heap.size w wr))
  case atStart=>exact⟨0,r,[],none,0,by omega,by omega,rfl,rfl,hrl,hzz HA0.out.symm,hzz (World.ownsRow_nil _ _ _ _),HB0⟩
  obtain⟨k,r,L,a,c,hk,rfl,rfl,rfl,hrl,HA,HO,HB⟩:=hrel
  cases r with
  |nil=>
   have hT:T=false:=by rw[HT0.out,<-HA.out,B0r _ _ (.inl rfl)];rfl
   subst hT
   go_wp2_with fail
   go_ret3;exact⟨⟨_,_,rfl⟩,HB.out⟩
  |cons d t=>
  have hix:(({data:=(d::t).toArray}:ByteArray)[0]'(by rw[A4n];simp)).toNat=d.toNat:=rfl;by_cases h41:d=41
  ·have q41:((d.toNat:Int)==41)=true:=by rw[h41];rfl
   have hA:A0=some (d::t):=by rw[<-HA.out,B0r _ _ (.inr (by rw[h41];rfl))]
   have hfr:=fun w'=>show(Instr.slice 9 (.string ⟨(d::t).toArray⟩) (some (.int .i64 1)) none none).run Tryz.prog w'= .ok (.string ⟨t.toArray⟩) w' from A7e w' (d::t) 1 (by simp) (by simp at hrl⊢;omega)
   have HTB:=hzz (show T=(decide (t=[86])||typeB t) by rw[HT0.out,hA,h41];simp[C3x]);have htl:t.length<=65536:=by simp at hrl;omega
   have HTY:=hzz (fun w=>A7p w t htl);obtain⟨y,hy⟩:=exz (typeB t);rw[<-hy]at HTB HTY;clear hA h41 hrl hy
   cases y
   ·by_cases h86:t=[86]
    ·have hT:T=true:=by rw[HTB.out,decide_eq_true h86,Bool.true_or]
     subst hT;have he:(t==[86])=true:=by simpa using h86
     clear h86
     go_wp2_with fail
     refine(HTY.out wr).mono ?_;rintro e w2 ⟨rfl,rfl⟩
     go_upto_region 13 with fail
     go_quiet (fail)
     go_wp2_with fail
     go_ret3;exact⟨⟨_,_,rfl⟩,HB.out.trans ((A7u _ _).mono HB.out.size)⟩
    have hT:T=false:=by rw[HTB.out,decide_eq_false h86,Bool.false_or]
    subst hT;have he:(t==[86])=false:=by simpa using h86
    clear h86
    go_wp2_with fail
    refine(HTY.out wr).mono ?_;rintro e w2 ⟨rfl,rfl⟩
    go_wp2_with fail
    go_ret3;exact⟨⟨_,_,rfl⟩,HB.out⟩
   have hT:T=true:=by rw[HTB.out,Bool.or_true]
   subst hT
   go_wp2_with fail
   refine(HTY.out wr).mono ?_;rintro e w2 ⟨rfl,rfl⟩
   go_upto_region 13 with fail
   go_quiet (fail)
   go_wp2_with fail
   go_ret3;exact⟨⟨_,_,rfl⟩,HB.out.trans ((A7u _ _).mono HB.out.size)⟩
  have q41:((d.toNat:Int)==41)=false:=by
   rw[beq_eq_false_iff_ne];intro h;exact h41 (UInt8.toNat_inj.1 (by rw[show(41:UInt8).toNat=41 from rfl];omega))
  obtain⟨m,hm⟩:=exz (A8g (d::t));have hml:=B6a (d::t);have HCU:=hzz (C7i wr (d::t) hrl);rw[<-hm]at HCU hml;by_cases h0:m=0
  ·have hT:T=false:=by
    rw[HT0.out,<-HA.out];by_cases hk6:k=16
    ·subst hk6;rw[B0w d t h41];rfl
    rw[show 16-k=(15-k)+1 by omega,B0h _ d t h41,<-hm,if_pos h0];rfl
   subst hT;rw[h0,List.take_zero]at HCU;clear HA hm hml h0 h41
   go_wp2_with fail
   refine HCU.out.mono ?_;rintro e w2 ⟨rfl,rfl⟩
   go_wp2_with fail
   go_ret3;exact⟨⟨_,_,rfl⟩,HB.out⟩
  obtain⟨m1,hm1⟩:∃m1,m=m1+1:=⟨m-1,by omega⟩;have HU:=hzz (show(d::t).take m=d::t.take m1 by rw[hm1,List.take_succ_cons]);rw[HU.out]at HCU
  have HUL:=hzz (show(t.take m1).length=m1 by rw[List.length_take];simp at hml;omega);by_cases hk6:k=16
  ·have hT:T=false:=by
    rw[HT0.out,<-HA.out];subst hk6;rw[B0w d t h41];rfl
   subst hT;have k16:((k:Int)==16)=true:=by rw[hk6];rfl
   generalize t.take m1=u at*;clear HA hm hml h0 h41 hk6 hk
   go_wp2_with fail
   refine HCU.out.mono ?_;rintro e w2 ⟨rfl,rfl⟩
   go_wp2_with fail
   go_ret3;exact⟨⟨_,_,rfl⟩,HB.out⟩
  have k16:((k:Int)==16)=false:=by rw[beq_eq_false_iff_ne];omega
  have HA2:=hzz (show A9j (16-(k+1)) ((d::t).drop m)=A0 by
   rw[<-HA.out,show 16-k=(16-(k+1))+1 by omega,B0h _ d t h41,<-hm,if_neg h0])
  have hfr:=fun w'=>show(Instr.slice 9 (.string ⟨(d::t).toArray⟩) (some (.int .i64 ((m1:Int)+1))) none none).run Tryz.prog w'= .ok (.string ⟨((d::t).drop m).toArray⟩) w' from by
   have:=A7e w' (d::t) m hml (by omega);subst hm1;exact this
  have HDL:=hzz (show((d::t).drop m).length<=65536 by rw[List.length_drop];omega);have hul:=HUL.out;generalize(d::t).drop m=r2 at*;generalize t.take m1=u at*;subst hul
  have k15:k<=15:=by omega
  have hk0:(0:Int)<=(u.length:Int)+1:=by omega
  clear hm hml h0 h41 hk6 hk hm1 HA HU HUL
  go_wp2_with fail
  refine HCU.out.mono ?_;rintro e w2 ⟨rfl,rfl⟩
  go_wp2_with (at_builtin;refine A1h C2g rfl _ _ rfl w.heap.size _ k _ rfl HO.out _ 1 _ _ rfl (by simp) rfl rfl (by omega) (by unfold maxLen;omega) HB.out.size ?_;intro v3 w3 hown3 hg3 hb3;obtain⟨a3,c3,rfl,-,-⟩:=Sl.ofOwn (enc:=A6r) (xs:=L++[d::u]) (by rw[List.map_append];exact hown3);have HO3:=hzz (show w3.ownsRow w.heap.size 9 1 (.slice a3 (k+1) c3) (k+1) ((L++[d::u]).map A6r) by rw[List.map_append];exact hown3);have HB3:=hzz (HB.out.trans hb3);clear hown3 hg3 hb3)
  go_roundg (17-(k+1))
  case measure=>omega
  exact⟨k+1,r2,L++[d::u],_,_,by omega,rfl,rfl,rfl,HDL.out,HA2,HO3,HB3⟩
 have hT:A3k (c0::r)=false:=by simp[A3k,h40]
 rw[hT]
 have q40:((c0.toNat:Int)==40)=false:=by
  rw[beq_eq_false_iff_ne];intro h;exact h40 (UInt8.toNat_inj.1 (by rw[show(40:UInt8).toNat=40 from rfl];omega))
 clear hT h40;go_enter Tryz.func116,Tryz.ntmps116
 go_wp2_with fail
 go_ret3;exact⟨⟨_,_,rfl⟩,HB0.out⟩
theorem B1z(w:World)(s:List UInt8)(hl:s.length<=65536):Calls Tryz.prog 66 #[.string ⟨s.toArray⟩] w fun e w'=>e= .returned (.bool (A3k s))/\Below w.heap.size w w':=by
 have HM:=hzz (C4x w s hl);generalize A3k s=T at*;clear hl
 cases T
 ·go_enter Tryz.func66,Tryz.ntmps66
  go_wp2_with fail
  refine HM.out.mono ?_;rintro e w1 ⟨⟨v1,v2,rfl⟩,hb⟩;simp only[Bool.false_eq_true,if_false]
  go_wp2_with fail
  go_ret;exact⟨rfl,hb⟩
 go_enter Tryz.func66,Tryz.ntmps66
 go_wp2_with fail
 refine HM.out.mono ?_;rintro e w1 ⟨⟨v1,v2,rfl⟩,hb⟩;simp only[if_true]
 go_wp2_with fail
 go_ret;exact⟨rfl,hb⟩
theorem B3w(w:World)(s:List UInt8)(hl:s.length<=65536):Calls Tryz.prog 118 #[.string ⟨s.toArray⟩] w fun e w'=>e= .returned (.bool (A2m s))/\w'=w:=by
 cases s with
 |nil=>
  have hT:A2m []=false:=rfl;rw[hT];clear hT;go_enter Tryz.func118,Tryz.ntmps118
  go_wp2_with fail
  go_ret;exact⟨rfl,rfl⟩
 |cons c r=>
 have hix:(({data:=(c::r).toArray}:ByteArray)[0]'(by rw[A4n];simp)).toNat=c.toNat:=rfl;have HT:=hzz (fun w=>A7p w (c::r) hl);by_cases h91:c=91
 ·have q91:((c.toNat:Int)==91)=true:=by rw[h91];rfl
  have HR:=hzz (show A2m (c::r)=typeB (c::r) by simp[A2m,h91]);generalize A2m (c::r)=R at*;generalize typeB (c::r)=T at*;clear h91;go_enter Tryz.func118,Tryz.ntmps118
  go_wp2_with fail
  refine(HT.out w).mono ?_;rintro e w1 ⟨rfl,rfl⟩
  go_wp2_with fail
  go_ret;exact⟨A2s HR.out.symm,rfl⟩
 have q91:((c.toNat:Int)==91)=false:=by
  rw[beq_eq_false_iff_ne];intro h;exact h91 (UInt8.toNat_inj.1 (by rw[show(91:UInt8).toNat=91 from rfl];omega))
 have HR:=hzz (show A2m (c::r)=false by simp[A2m,h91]);generalize A2m (c::r)=R at*;clear h91;go_enter Tryz.func118,Tryz.ntmps118
 go_wp2_with fail
 go_ret;exact⟨A2s HR.out.symm,rfl⟩
theorem A9b(w:World)(s:List UInt8)(hl:s.length<=65536):Calls Tryz.prog 18 #[.string ⟨s.toArray⟩] w fun e w'=>e= .returned (.bool (A7d s))/\w'=w:=by
 obtain⟨R,hR⟩:=exz (A7d s);have HR:=hzz hR;rw[<-hR];have HC:=hzz (fun w=>A2y w s (by omega));have HIX:=hzz (fun w' i h=>B8i w' s i h);obtain⟨N,hN⟩:=exz (s.length)
 have hsz:(⟨s.toArray⟩:ByteArray).size=N:=by rw[hN];exact A4n s
 have HN:=hzz hN;have hNl:N<=65536:=by omega
 clear hR hN;go_enter Tryz.func18,Tryz.ntmps18
 go_wp2_with fail
 go_loopg [3] N (fun gn dv wr=>∃k:Nat,k<=N/\gn=N-k/\dv= .int .i64 k/\Hid (∀i (h:i<s.length),i<k->¬s[i]=47)/\wr=w)
 case atStart=>exact⟨0,by omega,by omega,by go_num,hzz (fun i h h0=>by omega),rfl⟩
 obtain⟨k,hk,rfl,rfl,HG,rfl⟩:=hrel;by_cases hlt:k<N
 ·have k1:(k:Int)<N:=by omega
  have hkl:k<s.length:=by rw[<-HN.out];exact hlt
  have hix:=fun w'=>HIX.out w' k hkl
  have HX:=hzz (show ¬s[k]=47->∀i (h:i<s.length),i<k+1->¬s[i]=47 from fun h i hi hi2=>by
   rcases Nat.lt_or_ge i k with h1|h1
   ·exact HG.out i hi h1
   obtain rfl:i=k:=by omega
   exact h)
  have HY:=hzz (show s[k]=47->R=false from fun h=>by
   rw[HR.out]
   have:s.contains 47=true:=by
    rw[List.contains_iff_mem,<-h];exact List.getElem_mem hkl
   unfold A7d;rw[this];rfl)
  generalize s[k]=c at*;clear hkl;by_cases h47:c=47
  ·have hRf:=HY.out h47;subst hRf;have q47:((c.toNat:Int)==47)=true:=by rw[h47];rfl
   clear h47 hlt
   go_wp2_with fail
   go_ret;exact⟨rfl,rfl⟩
  have HX2:=hzz (HX.out h47)
  have q47:((c.toNat:Int)==47)=false:=by
   rw[beq_eq_false_iff_ne];intro h;exact h47 (UInt8.toNat_inj.1 (by rw[show(47:UInt8).toNat=47 from rfl];omega))
  clear h47 hlt
  go_wp2_with fail
  go_roundg (N-(k+1))
  case measure=>omega
  exact⟨k+1,by omega,rfl,by go_num,HX2,rfl⟩
 have k1:¬(k:Int)<N:=by omega
 have hRf:R=classB s:=by
  rw[HR.out]
  have:s.contains 47=false:=by
   rw[<-Bool.not_eq_true,List.contains_iff_mem];intro hm;obtain⟨i,hi,e⟩:=List.getElem_of_mem hm;exact HG.out i hi (by have:=HN.out;omega) e
  unfold A7d;rw[this];rfl
 subst hRf;clear hlt
 go_wp2_with fail
 refine(HC.out wr).mono ?_;rintro e w1 ⟨rfl,rfl⟩
 go_wp2_with fail
 go_ret;exact⟨rfl,rfl⟩
end
end Go.Proofs.YtclpkipaehpkdaaGreatDoor
