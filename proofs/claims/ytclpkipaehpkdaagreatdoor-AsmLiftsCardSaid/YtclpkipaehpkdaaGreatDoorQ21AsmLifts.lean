/- asm: own texts, merged (wip/merge3.py). No condition. -/
import Derived.Test.YtclpkipaehpkdaaGreatDoorQ20AsmLifts
import Derived.Test.YtclpkipaehpkdaaGreatDoorQ04AsmLifts
set_option linter.unusedVariables false
set_option linter.unusedSimpArgs false
set_option maxRecDepth 100000
set_option maxHeartbeats 64000000
namespace Go.Proofs.YtclpkipaehpkdaaGreatDoor
section
open Go.ChangeShapes Go.WideShapes Go.ChangeAt Go.RowKit
theorem D2h{K:List KV}{i:Int}(h:(A0s K i).2=false):(A0s K i).1=[]:=by
 unfold A0s at h⊢;split at h
 ·next h7=>
  simp only[h7,if_true]at h⊢;unfold A1p;rw[h];rfl
 ·next h7=>rw[if_neg h7]
theorem C7j:classB []=false:=by rfl
theorem C6a:A2z []=false:=by rfl
theorem A9f(K:List KV)(i:Int)(arr:Bool):aclsB K i arr=(classB (A0s K i).1||(arr&&A2z (A0s K i).1)):=by
 unfold aclsB
 cases h:(A0s K i).2
 ·rw[D2h h,C7j,C6a]
  cases arr<;>rfl
 ·rfl
def D4y(K:List KV)(zn:Nat)(l:List KS)(w:World)(e:Ending)(w':World):Prop:=
 Below w.heap.size w w'∧((l.all (A5v K)=false∧e= .returned (.tuple #[.slice none 0 0,.bool false]))∨
  (l.all (A5v K)=true∧∃oa oc,e= .returned (.tuple #[.slice oa zn oc,.bool true])∧w'.ownsRow w.heap.size 9 1 (.slice oa zn oc) zn ((l.map (A1v K)).map A7h)))
theorem B6h(w:World)(a:Option Addr)(n cap:Nat)(K:List KV)(za:Option Addr)(zn zc:Nat)(l:List KS)(hs:Ks w a n K)(hn:n≤65536)(hx:∀i:Int,(kAt K i).s.length≤65536)(hz:Ss 2 KS.cells w za zn l)(hzn:zn≤1000000)(ht:∀s∈l,B3p s):
  Calls Tryz.prog 69 #[.slice a n cap,.slice za zn zc] w (D4y K zn l w):=by
 have HKS:=Lib.hid hs;have HNN:=Lib.hid hn;have HTX:=Lib.hid hx;have HZ:=Lib.hid hz;have HZn:=Lib.hid hz.1;have HTG:=Lib.hid ht;clear hs hn hx hz ht;go_enter Tryz.func69,Tryz.ntmps69
 go_wp2_with fail
 go_loopg [6,14] zn (fun gn ov i wr=>∃(j:Nat) (oa:Option Addr) (oc:Nat),j≤zn∧gn=zn-j∧ov= .slice oa j oc∧i= .int .i64 j∧Hid ((l.take j).all (A5v K)=true)∧Hid (Below w.heap.size w wr)∧Hid (wr.ownsRow w.heap.size 9 1 (.slice oa j oc) j (((l.take j).map (A1v K)).map A7h)))
 case atStart=>exact⟨0,none,0,by omega,by omega,rfl,by go_num,Lib.hid (by simp),Lib.hid (Below.refl _ _),Lib.hid (World.ownsRow_nil _ _ _ _)⟩
 case round=>
  obtain⟨j,oa,oc,hj,rfl,rfl,rfl,HE,HB,HOW⟩:=hrel;by_cases hlt:j<zn
  ·have hz2:=HZ.out.below HB.out;obtain⟨b,off,s,rfl,hbl,hs,q⟩:=hz2.getC j hlt;have q0:=q 0 (by omega);have q1:=q 1 (by omega);rw[Nat.add_zero]at q0;have hj1:(j:Int)<zn:=by omega
   have htg:=HTG.out s (List.mem_of_getElem? hs)
   have HTK:=Lib.hid (show l.take (j+1)=l.take j++[s] by
    have hjl:=(List.getElem?_eq_some_iff.1 hs).1;rw[List.take_succ_eq_append_getElem hjl,(List.getElem?_eq_some_iff.1 hs).2])
   have HNO:=Lib.hid (show A5v K s=false→l.all (A5v K)=false from fun h=>by
    rw[List.all_eq_false];exact⟨s,List.mem_of_getElem? hs,by simp[h]⟩)
   obtain⟨tag,sa⟩:=s;simp only[KS.cells,List.getElem?_cons_zero,List.getElem?_cons_succ]at q0 q1;unfold B3p at htg;simp only at htg;have j0:j<1000000:=by omega
   clear hz2 q hs hlt;have HB1:=Lib.hid (HB.out.alloc HB.out.size (.cells #[.int .i64 tag,.int .i64 sa] 174));have HOX:=Lib.hid (A1n HOW.out (A0e wr (.cells #[.int .i64 tag,.int .i64 sa] 174)))
   rcases htg with rfl|rfl|rfl|rfl|rfl
   ·obtain⟨tx,htx⟩:∃tx,tx=B2q 0:=⟨_,rfl⟩
    have HTX2:=Lib.hid (show(l.take (j+1)).map (A1v K)=(l.take j).map (A1v K)++[tx] by rw[HTK.out,List.map_append,List.map_singleton,(A3f K ⟨0,sa⟩ (by simp)).1,htx])
    have HEX:=Lib.hid (show(l.take (j+1)).all (A5v K)=true by rw[HTK.out,List.all_append,HE.out];simp[(A3f K ⟨0,sa⟩ (by simp)).2]);have HBX:=HB1;subst htx
    rw[show B2q 0=[84]from rfl]at HTX2;obtain⟨tx,htx⟩:∃tx:List UInt8,tx=[84]:=⟨_,rfl⟩;rw[←htx]at HTX2;have HXT:=Lib.hid htx;subst htx
    go_wp2_with (at_builtin;refine A1k C4u rfl _ _ rfl w.heap.size _ j _ rfl HOX.out _ 1 _ _ rfl (by simp) rfl rfl (by omega) (by unfold maxLen;omega) HBX.out.size ?_;intro v9 w9 hown9 hg9 hb9;obtain⟨a9,c9,rfl,-,-⟩:=Sl.ofOwn (enc:=A7h) (xs:=((l.take j).map (A1v K))++[[84]]) (by rw[List.map_append];exact hown9);have HO9:=Lib.hid (show w9.ownsRow w.heap.size 9 1 (.slice a9 (j+1) c9) (j+1) ((((l.take j).map (A1v K))++[[84]]).map A7h) by rw[List.map_append];exact hown9);have HB9:=Lib.hid (HBX.out.trans hb9);clear hown9 hg9 hb9)
    go_roundg (zn-(j+1))
    case measure=>omega
    case rel=>exact⟨j+1,_,_,by omega,rfl,rfl,by go_num,HEX,HB9,Lib.hid (by rw[HTX2.out];exact HO9.out)⟩
   ·obtain⟨tx,htx⟩:∃tx,tx=B2q 1:=⟨_,rfl⟩
    have HTX2:=Lib.hid (show(l.take (j+1)).map (A1v K)=(l.take j).map (A1v K)++[tx] by rw[HTK.out,List.map_append,List.map_singleton,(A3f K ⟨1,sa⟩ (by simp)).1,htx])
    have HEX:=Lib.hid (show(l.take (j+1)).all (A5v K)=true by rw[HTK.out,List.all_append,HE.out];simp[(A3f K ⟨1,sa⟩ (by simp)).2]);have HBX:=HB1;subst htx
    rw[show B2q 1=[73]from rfl]at HTX2;obtain⟨tx,htx⟩:∃tx:List UInt8,tx=[73]:=⟨_,rfl⟩;rw[←htx]at HTX2;have HXT:=Lib.hid htx;subst htx
    go_wp2_with (at_builtin;refine A1k C4u rfl _ _ rfl w.heap.size _ j _ rfl HOX.out _ 1 _ _ rfl (by simp) rfl rfl (by omega) (by unfold maxLen;omega) HBX.out.size ?_;intro v9 w9 hown9 hg9 hb9;obtain⟨a9,c9,rfl,-,-⟩:=Sl.ofOwn (enc:=A7h) (xs:=((l.take j).map (A1v K))++[[73]]) (by rw[List.map_append];exact hown9);have HO9:=Lib.hid (show w9.ownsRow w.heap.size 9 1 (.slice a9 (j+1) c9) (j+1) ((((l.take j).map (A1v K))++[[73]]).map A7h) by rw[List.map_append];exact hown9);have HB9:=Lib.hid (HBX.out.trans hb9);clear hown9 hg9 hb9)
    go_roundg (zn-(j+1))
    case measure=>omega
    case rel=>exact⟨j+1,_,_,by omega,rfl,rfl,by go_num,HEX,HB9,Lib.hid (by rw[HTX2.out];exact HO9.out)⟩
   ·obtain⟨tx,htx⟩:∃tx,tx=B2q 4:=⟨_,rfl⟩
    have HTX2:=Lib.hid (show(l.take (j+1)).map (A1v K)=(l.take j).map (A1v K)++[tx] by rw[HTK.out,List.map_append,List.map_singleton,(A3f K ⟨4,sa⟩ (by simp)).1,htx])
    have HEX:=Lib.hid (show(l.take (j+1)).all (A5v K)=true by rw[HTK.out,List.all_append,HE.out];simp[(A3f K ⟨4,sa⟩ (by simp)).2]);have HBX:=HB1;subst htx
    rw[show B2q 4=[74]from rfl]at HTX2;obtain⟨tx,htx⟩:∃tx:List UInt8,tx=[74]:=⟨_,rfl⟩;rw[←htx]at HTX2;have HXT:=Lib.hid htx;subst htx
    go_wp2_with (at_builtin;refine A1k C4u rfl _ _ rfl w.heap.size _ j _ rfl HOX.out _ 1 _ _ rfl (by simp) rfl rfl (by omega) (by unfold maxLen;omega) HBX.out.size ?_;intro v9 w9 hown9 hg9 hb9;obtain⟨a9,c9,rfl,-,-⟩:=Sl.ofOwn (enc:=A7h) (xs:=((l.take j).map (A1v K))++[[74]]) (by rw[List.map_append];exact hown9);have HO9:=Lib.hid (show w9.ownsRow w.heap.size 9 1 (.slice a9 (j+1) c9) (j+1) ((((l.take j).map (A1v K))++[[74]]).map A7h) by rw[List.map_append];exact hown9);have HB9:=Lib.hid (HBX.out.trans hb9);clear hown9 hg9 hb9)
    go_roundg (zn-(j+1))
    case measure=>omega
    case rel=>exact⟨j+1,_,_,by omega,rfl,rfl,by go_num,HEX,HB9,Lib.hid (by rw[HTX2.out];exact HO9.out)⟩
   ·obtain⟨tx,htx⟩:∃tx,tx=B2q 5:=⟨_,rfl⟩
    have HTX2:=Lib.hid (show(l.take (j+1)).map (A1v K)=(l.take j).map (A1v K)++[tx] by rw[HTK.out,List.map_append,List.map_singleton,(A3f K ⟨5,sa⟩ (by simp)).1,htx])
    have HEX:=Lib.hid (show(l.take (j+1)).all (A5v K)=true by rw[HTK.out,List.all_append,HE.out];simp[(A3f K ⟨5,sa⟩ (by simp)).2]);have HBX:=HB1;subst htx
    rw[show B2q 5=[78]from rfl]at HTX2;obtain⟨tx,htx⟩:∃tx:List UInt8,tx=[78]:=⟨_,rfl⟩;rw[←htx]at HTX2;have HXT:=Lib.hid htx;subst htx
    go_wp2_with (at_builtin;refine A1k C4u rfl _ _ rfl w.heap.size _ j _ rfl HOX.out _ 1 _ _ rfl (by simp) rfl rfl (by omega) (by unfold maxLen;omega) HBX.out.size ?_;intro v9 w9 hown9 hg9 hb9;obtain⟨a9,c9,rfl,-,-⟩:=Sl.ofOwn (enc:=A7h) (xs:=((l.take j).map (A1v K))++[[78]]) (by rw[List.map_append];exact hown9);have HO9:=Lib.hid (show w9.ownsRow w.heap.size 9 1 (.slice a9 (j+1) c9) (j+1) ((((l.take j).map (A1v K))++[[78]]).map A7h) by rw[List.map_append];exact hown9);have HB9:=Lib.hid (HBX.out.trans hb9);clear hown9 hg9 hb9)
    go_roundg (zn-(j+1))
    case measure=>omega
    case rel=>exact⟨j+1,_,_,by omega,rfl,rfl,by go_num,HEX,HB9,Lib.hid (by rw[HTX2.out];exact HO9.out)⟩
   ·have hTO:=C3s K sa;rw[A9f]at hTO;have hsl:=A2t HTX.out sa;have HCL:=Lib.hid (fun W (hK:Ks W a n K)=>A4p W a n cap K sa hK HNN.out);unfold A4f at HCL
    have HIA:=Lib.hid (fun W=>B3h W (A0s K sa).1 hsl);have HIC:=Lib.hid (fun W=>A2u W (A0s K sa).1 (by omega))
    obtain⟨ib,hib⟩:∃ib,ib=A2z (A0s K sa).1:=⟨_,rfl⟩;obtain⟨ic,hic⟩:∃ic,ic=classB (A0s K sa).1:=⟨_,rfl⟩;rw[←hib]at hTO HIA;rw[←hic]at hTO HIC
    generalize(A0s K sa).2=c2 at*;generalize(A0s K sa).1=c at*;have HTO:=Lib.hid hTO;clear hTO hib hic
    go_wp2_with fail
    refine(HCL.out _ (HKS.out.below HB1.out)).mono ?_;rintro e w5 ⟨rfl,rfl⟩;have HBX:=HB1;clear HCL
    go_wp2_with fail
    refine(HIA.out _).mono ?_;rintro e w6 ⟨rfl,hw6⟩;replace hw6:=hw6.symm;subst hw6
    cases ib
    ·go_wp2_with fail
     refine(HIC.out _).mono ?_;rintro e w6 ⟨rfl,hw6⟩;replace hw6:=hw6.symm;subst hw6
     cases ic
     ·have HR:=Lib.hid (HNO.out (by rw[HTO.out.2];rfl))
      go_wp2_with fail
      go_ret2;exact⟨HBX.out,.inl ⟨HR.out,rfl⟩⟩
     ·have he:((⟨#[76]⟩:ByteArray)++(⟨c.toArray⟩:ByteArray))++(⟨#[59]⟩:ByteArray)=⟨(D1n c).toArray⟩:=by
       rw[show(⟨#[76]⟩:ByteArray)=⟨[76].toArray⟩from rfl,show(⟨#[59]⟩:ByteArray)=⟨[59].toArray⟩from rfl,B7x,B7x];rfl
      have n1:¬9223372036854775807<1+c.length:=by omega
      have n2:¬9223372036854775807<1+c.length+1:=by omega
      have HTX2:=Lib.hid (show(l.take (j+1)).map (A1v K)=(l.take j).map (A1v K)++[D1n c] by rw[HTK.out,List.map_append,List.map_singleton,HTO.out.1];simp)
      have HEX:=Lib.hid (show(l.take (j+1)).all (A5v K)=true by rw[HTK.out,List.all_append,HE.out];simp[HTO.out.2]);generalize D1n c=tx at*
      go_wp2_with (at_builtin;refine A1k C4u rfl _ _ rfl w.heap.size _ j _ rfl HOX.out _ 1 _ _ rfl (by simp) rfl rfl (by omega) (by unfold maxLen;omega) HBX.out.size ?_;intro v9 w9 hown9 hg9 hb9;obtain⟨a9,c9,rfl,-,-⟩:=Sl.ofOwn (enc:=A7h) (xs:=((l.take j).map (A1v K))++[tx]) (by rw[List.map_append];exact hown9);have HO9:=Lib.hid (show w9.ownsRow w.heap.size 9 1 (.slice a9 (j+1) c9) (j+1) ((((l.take j).map (A1v K))++[tx]).map A7h) by rw[List.map_append];exact hown9);have HB9:=Lib.hid (HBX.out.trans hb9);clear hown9 hg9 hb9)
      go_roundg (zn-(j+1))
      case measure=>omega
      case rel=>exact⟨j+1,_,_,by omega,rfl,rfl,by go_num,HEX,HB9,Lib.hid (by rw[HTX2.out];exact HO9.out)⟩
    ·have HTX2:=Lib.hid (show(l.take (j+1)).map (A1v K)=(l.take j).map (A1v K)++[c] by rw[HTK.out,List.map_append,List.map_singleton,HTO.out.1];simp)
     have HEX:=Lib.hid (show(l.take (j+1)).all (A5v K)=true by rw[HTK.out,List.all_append,HE.out];simp[HTO.out.2])
     go_wp2_with (at_builtin;refine A1k C4u rfl _ _ rfl w.heap.size _ j _ rfl HOX.out _ 1 _ _ rfl (by simp) rfl rfl (by omega) (by unfold maxLen;omega) HBX.out.size ?_;intro v9 w9 hown9 hg9 hb9;obtain⟨a9,c9,rfl,-,-⟩:=Sl.ofOwn (enc:=A7h) (xs:=((l.take j).map (A1v K))++[c]) (by rw[List.map_append];exact hown9);have HO9:=Lib.hid (show w9.ownsRow w.heap.size 9 1 (.slice a9 (j+1) c9) (j+1) ((((l.take j).map (A1v K))++[c]).map A7h) by rw[List.map_append];exact hown9);have HB9:=Lib.hid (HBX.out.trans hb9);clear hown9 hg9 hb9)
     go_roundg (zn-(j+1))
     case measure=>omega
     case rel=>exact⟨j+1,_,_,by omega,rfl,rfl,by go_num,HEX,HB9,Lib.hid (by rw[HTX2.out];exact HO9.out)⟩
  ·obtain rfl:j=zn:=by omega
   have hfull:l.take j=l:=List.take_of_length_le (by rw[HZn.out];exact Nat.le_refl _);rw[hfull]at HE HOW;clear hlt
   go_wp2_with fail
   go_ret2;exact⟨HB.out,.inr ⟨HE.out,_,_,rfl,HOW.out⟩⟩
end
end Go.Proofs.YtclpkipaehpkdaaGreatDoor
