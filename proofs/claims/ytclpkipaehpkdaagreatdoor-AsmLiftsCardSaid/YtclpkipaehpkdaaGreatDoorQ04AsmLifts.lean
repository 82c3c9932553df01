/- asm: own texts, merged (wip/merge3.py). No condition. -/
import Derived.Test.YtclpkipaehpkdaaGreatDoorQ03AsmLifts
import Derived.Test.YtclpkipaehpkdaaGreatDoorQ01AsmLifts
import Derived.Test.YtclpkipaehpkdaaGreatDoorQ00AsmLifts
import Derived.OwnWalk
import Derived.Test.YtclpkipaehpkdaaGreatDoorQ02AsmLifts
set_option linter.unusedVariables false
set_option linter.unusedSimpArgs false
set_option maxRecDepth 100000
set_option maxHeartbeats 64000000
namespace Go.Proofs.YtclpkipaehpkdaaGreatDoor
section
open Go.ChangeShapes Go.WideShapes Go.ChangeAt Go.RowKit
theorem B8d(w:World)(s:List UInt8)(i:Nat)(h:i<s.length):(Instr.index 9 (.string ⟨s.toArray⟩) (.int .i64 (i:Nat))).run Tryz.prog w= .ok (.int .u8 (s[i].toNat:Int)) w:=by
 have h1:(i:Int)<s.length:=by omega
 have h2:(⟨s.toArray⟩:ByteArray).size=s.length:=A4m s;have h3:(({data:=s.toArray}:ByteArray)[i]'(by rw[A4m];exact h)).toNat=s[i].toNat:=rfl
 simp[go_sem,Instr.index,Tryz.underlying9,h,h1,h2,h3]
theorem D2u(w:World)(s:List UInt8)(hl:s.length≤65536):Calls Tryz.prog 64 #[.string ⟨s.toArray⟩] w fun e w'=>e= .returned (.bool (objR s))∧w'=w:=by
 by_cases h3:3≤s.length
 ·have i0:=fun w'=>show(Instr.index 9 (.string ⟨s.toArray⟩) (.int .i64 0)).run Tryz.prog w'=_ from B8d w' s 0 (by omega)
  have i1:=fun w'=>show(Instr.index 9 (.string ⟨s.toArray⟩) (.int .i64 ((s.length:Int) -1))).run Tryz.prog w'= .ok (.int .u8 ((s[s.length-1]'(by omega)).toNat:Int)) w' from by
   have:=B8d w' s (s.length-1) (by omega);rw[show(((s.length-1:Nat)):Int)=(s.length:Int) -1 by omega]at this;exact this
  have hmd:=fun w'=>show(Instr.slice 9 (.string ⟨s.toArray⟩) (some (.int .i64 1)) (some (.int .i64 ((s.length:Int) -1))) none).run Tryz.prog w'= .ok (.string ⟨((s.drop 1).take (s.length-2)).toArray⟩) w' from by
   have:=B9w w' s 1 (s.length-1) (by omega) (by omega) (by omega);rw[show(((s.length-1:Nat)):Int)=(s.length:Int) -1 by omega,List.drop_take]at this;exact this
  have HC:=Lib.hid (fun w=>A2u w ((s.drop 1).take (s.length-2)) (by rw[List.length_take,List.length_drop];omega))
  have hO:objR s=(decide (s[0]=76)&&(decide (s[s.length-1]=59)&&classB ((s.drop 1).take (s.length-2)))):=by
   unfold objR;rw[decide_eq_true h3,Bool.true_and];congr 1
   ·rw[List.head?_eq_getElem?,List.getElem?_eq_getElem (by omega)];simp
   ·congr 1;rw[List.getLast?_eq_getElem?,List.getElem?_eq_getElem (by omega)];simp
  have HO:=Lib.hid hO;have n3:decide ((3:Int)≤s.length)=true:=by simp;omega
  have hyn:∀(c:UInt8) (k:Nat),k<256→((c.toNat:Int)==(k:Int))=decide (c=UInt8.ofNat k):=fun c k hk=>by
   rw[Bool.eq_iff_iff,beq_iff_eq,decide_eq_true_iff];constructor
   ·intro h;apply UInt8.toNat_inj.1;rw[UInt8.toNat_ofNat_of_lt' (by simpa using hk)];omega
   ·rintro rfl;rw[UInt8.toNat_ofNat_of_lt' (by simpa using hk)]
  generalize(s.drop 1).take (s.length-2)=M at*;generalize objR s=R at*;generalize s[0]=a at*;generalize s[s.length-1]=b at*
  have ya:((a.toNat:Int)==76)=decide (a=76):=hyn a 76 (by decide);have yb:((b.toNat:Int)==59)=decide (b=59):=hyn b 59 (by decide);generalize decide (a=76)=x at*
  generalize decide (b=59)=y at*;clear hyn hO h3
  cases x
  ·go_enter Tryz.func64,Tryz.ntmps64
   go_wp2_with fail
   go_ret;exact⟨A2n (by rw[HO.out];rfl),rfl⟩
  ·cases y
   ·go_enter Tryz.func64,Tryz.ntmps64
    go_wp2_with fail
    go_ret;exact⟨A2n (by rw[HO.out];rfl),rfl⟩
   ·go_enter Tryz.func64,Tryz.ntmps64
    go_wp2_with fail
    refine(HC.out w).mono ?_;rintro e w1 ⟨rfl,rfl⟩
    go_wp2_with fail
    go_ret;exact⟨A2n (by rw[HO.out];rfl),rfl⟩
 ·have n3:decide ((3:Int)≤s.length)=false:=by simp;omega
  have HO:=Lib.hid (show objR s=false by unfold objR;rw[decide_eq_false h3];rfl);generalize objR s=R at*;clear h3;go_enter Tryz.func64,Tryz.ntmps64
  go_wp2_with fail
  go_ret;exact⟨A2n HO.out.symm,rfl⟩
theorem A7a(w:World)(s:List UInt8)(hl:s.length≤65536):Calls Tryz.prog 28 #[.string ⟨s.toArray⟩] w fun e w'=>e= .returned (.bool (typeB s))∧w'=w:=by
 rw[←B7k];obtain⟨D,hD⟩:∃D,D=A2g s:=⟨_,rfl⟩;have hdl:D≤s.length:=by rw[hD];exact B4g s
 have HAT:=Lib.hid (fun(i:Nat) (h:i<D) (h2:i<s.length)=>show s[i]=91 by
  have:=D0i s i (by omega);rw[List.getElem?_eq_getElem h2]at this;exact Option.some.inj this)
 have HST:=Lib.hid (fun(h2:D<s.length)=>show ¬s[D]=91 from fun e=>by
  have:=B5h s;subst hD;rw[List.getElem?_eq_getElem h2,e]at this;exact this rfl)
 obtain⟨B,hB⟩:∃B,B=s.drop D:=⟨_,rfl⟩
 have hR:C1e s=if 8<D then false else if 0<D∧B=[66]then true else decide (B=[73])||((decide (D=0)&&decide (B=[74]))||objR B):=by rw[hB,hD];rfl
 have HO:=Lib.hid (fun w=>D2u w B (by rw[hB,List.length_drop];omega));have hfr:=fun w'=>A6r w' s D hdl (by omega)
 rw[←hB]at hfr;have HFR:=Lib.hid hfr;have b66:(B==[66])=decide (B=[66]):=by rw[Bool.eq_iff_iff,beq_iff_eq,decide_eq_true_iff]
 have b73:(B==[73])=decide (B=[73]):=by rw[Bool.eq_iff_iff,beq_iff_eq,decide_eq_true_iff]
 have b74:(B==[74])=decide (B=[74]):=by rw[Bool.eq_iff_iff,beq_iff_eq,decide_eq_true_iff]
 have HIX:=Lib.hid (fun w' i h=>B8d w' s i h);have HR:=Lib.hid hR
 have hR2:∀(p66 p73 p74 o:Bool),p66=decide (B=[66])→p73=decide (B=[73])→p74=decide (B=[74])→o=objR B→C1e s=if 8<D then false else if 0<D∧p66=true then true else p73||((decide (D=0)&&p74)||o):=by
  rintro _ _ _ _ rfl rfl rfl rfl;rw[HR.out];simp
 have HR2:=Lib.hid hR2;obtain⟨p66,h66⟩:∃p,p=decide (B=[66]):=⟨_,rfl⟩;obtain⟨p73,h73⟩:∃p,p=decide (B=[73]):=⟨_,rfl⟩;obtain⟨p74,h74⟩:∃p,p=decide (B=[74]):=⟨_,rfl⟩
 obtain⟨o,ho⟩:∃p,p=objR B:=⟨_,rfl⟩;have HR3:=Lib.hid (HR2.out p66 p73 p74 o h66 h73 h74 ho);rw[←h66]at b66;rw[←h73]at b73;rw[←h74]at b74;rw[←ho]at HO;generalize C1e s=R at*
 clear h66 h73 h74 ho hR hR2 HR2 HR hfr hB hD;go_enter Tryz.func28,Tryz.ntmps28
 go_wp2_with fail
 go_loopg [3] D (fun gn dv wr=>∃k:Nat,k≤D∧gn=D-k∧dv= .int .i64 k∧wr=w)
 case atStart=>exact⟨0,by omega,by omega,by go_num,rfl⟩
 case round=>
  obtain⟨k,hk,rfl,rfl,rfl⟩:=hrel;by_cases hlt:k<D
  ·have k1:(k:Int)<s.length:=by omega
   have hix:=fun w'=>HIX.out w' k (by omega)
   rw[HAT.out k hlt (by omega)]at hix;have hix2:=fun w'=>show(Instr.index 9 (.string ⟨s.toArray⟩) (.int .i64 (k:Nat))).run Tryz.prog w'= .ok (.int .u8 91) w' from hix w'
   clear hix
   go_wp2_with fail
   go_roundg (D-(k+1))
   case measure=>omega
   case rel=>exact⟨k+1,by omega,rfl,by go_num,rfl⟩
  ·have hkD:k=D:=by omega
   subst hkD;have hfr:=HFR.out;by_cases hend:k<s.length
   ·have k1:(k:Int)<s.length:=by omega
    have hix:=fun w'=>HIX.out w' k hend
    have hne:=HST.out hend;generalize s[k]=c at*
    have q91:((c.toNat:Int)==91)=false:=by
     rw[beq_eq_false_iff_ne];intro h;exact hne (UInt8.toNat_inj.1 (by rw[show(91:UInt8).toNat=91 from rfl];omega))
    clear hne hlt;by_cases h8:8<k
    ·have d8:(8:Int)<k:=by omega
     have hRf:R=false:=by rw[HR3.out,if_pos h8]
     subst hRf;clear h8
     go_wp2_with fail
     go_ret;exact⟨rfl,rfl⟩
    ·have d8:¬(8:Int)<k:=by omega
     by_cases h0:0<k
     ·have d0:(0:Int)<k:=by omega
      have dz:((k:Int)==0)=false:=by rw[beq_eq_false_iff_ne];omega
      cases p66
      ·have hRf:R=(p73||o):=by rw[HR3.out,if_neg h8,if_neg (fun h=>by cases h.2),decide_eq_false (by omega),Bool.false_and,Bool.false_or]
       cases p73
       ·have hRf2:R=o:=hRf;subst hRf2;clear h8 h0 hRf
        go_wp2_with fail
        refine(HO.out wr).mono ?_;rintro e w1 ⟨rfl,rfl⟩
        go_wp2_with fail
        go_ret;exact⟨rfl,rfl⟩
       ·have hRf2:R=true:=hRf;subst hRf2;clear h8 h0 hRf
        go_wp2_with fail
        go_ret;exact⟨rfl,rfl⟩
      ·have hRf:R=true:=by rw[HR3.out,if_neg h8,if_pos ⟨h0,rfl⟩]
       subst hRf;clear h8 h0
       go_wp2_with fail
       go_ret;exact⟨rfl,rfl⟩
     ·have d0:¬(0:Int)<k:=by omega
      have dz:((k:Int)==0)=true:=by rw[beq_iff_eq];omega
      have hRf:R=(p73||(p74||o)):=by rw[HR3.out,if_neg h8,if_neg (fun h=>h0 h.1),decide_eq_true (by omega),Bool.true_and]
      cases p73
      ·cases p74
       ·have hRf2:R=o:=hRf;subst hRf2;clear h8 h0 hRf
        go_wp2_with fail
        refine(HO.out wr).mono ?_;rintro e w1 ⟨rfl,rfl⟩
        go_wp2_with fail
        go_ret;exact⟨rfl,rfl⟩
       ·have hRf2:R=true:=hRf;subst hRf2;clear h8 h0 hRf
        go_wp2_with fail
        go_ret;exact⟨rfl,rfl⟩
      ·have hRf2:R=true:=hRf;subst hRf2;clear h8 h0 hRf
       go_wp2_with fail
       go_ret;exact⟨rfl,rfl⟩
   ·have k1:¬(k:Int)<s.length:=by omega
    clear hlt;by_cases h8:8<k
    ·have d8:(8:Int)<k:=by omega
     have hRf:R=false:=by rw[HR3.out,if_pos h8]
     subst hRf;clear h8
     go_wp2_with fail
     go_ret;exact⟨rfl,rfl⟩
    ·have d8:¬(8:Int)<k:=by omega
     by_cases h0:0<k
     ·have d0:(0:Int)<k:=by omega
      have dz:((k:Int)==0)=false:=by rw[beq_eq_false_iff_ne];omega
      cases p66
      ·have hRf:R=(p73||o):=by rw[HR3.out,if_neg h8,if_neg (fun h=>by cases h.2),decide_eq_false (by omega),Bool.false_and,Bool.false_or]
       cases p73
       ·have hRf2:R=o:=hRf;subst hRf2;clear h8 h0 hRf
        go_wp2_with fail
        refine(HO.out wr).mono ?_;rintro e w1 ⟨rfl,rfl⟩
        go_wp2_with fail
        go_ret;exact⟨rfl,rfl⟩
       ·have hRf2:R=true:=hRf;subst hRf2;clear h8 h0 hRf
        go_wp2_with fail
        go_ret;exact⟨rfl,rfl⟩
      ·have hRf:R=true:=by rw[HR3.out,if_neg h8,if_pos ⟨h0,rfl⟩]
       subst hRf;clear h8 h0
       go_wp2_with fail
       go_ret;exact⟨rfl,rfl⟩
     ·have d0:¬(0:Int)<k:=by omega
      have dz:((k:Int)==0)=true:=by rw[beq_iff_eq];omega
      have hRf:R=(p73||(p74||o)):=by rw[HR3.out,if_neg h8,if_neg (fun h=>h0 h.1),decide_eq_true (by omega),Bool.true_and]
      cases p73
      ·cases p74
       ·have hRf2:R=o:=hRf;subst hRf2;clear h8 h0 hRf
        go_wp2_with fail
        refine(HO.out wr).mono ?_;rintro e w1 ⟨rfl,rfl⟩
        go_wp2_with fail
        go_ret;exact⟨rfl,rfl⟩
       ·have hRf2:R=true:=hRf;subst hRf2;clear h8 h0 hRf
        go_wp2_with fail
        go_ret;exact⟨rfl,rfl⟩
      ·have hRf2:R=true:=hRf;subst hRf2;clear h8 h0 hRf
       go_wp2_with fail
       go_ret;exact⟨rfl,rfl⟩
theorem C5t(w:World)(s:List UInt8)(hl:s.length≤65536):Calls Tryz.prog 153 #[.string ⟨s.toArray⟩] w fun e w'=>e= .returned (.string ⟨(s.take (A7x s)).toArray⟩)∧w'=w:=by
 rw[←D2a];obtain⟨T,hT⟩:∃T,T=B1s s.length 1 s:=⟨_,rfl⟩;have HT:=Lib.hid hT;rw[←hT];obtain⟨N,hN⟩:∃N,N=s.length:=⟨_,rfl⟩
 have hsz:(⟨s.toArray⟩:ByteArray).size=N:=by rw[hN];exact A4m s
 have HN:=Lib.hid hN;have hNl:N≤65536:=by omega
 clear hT hN;go_enter Tryz.func153,Tryz.ntmps153
 go_wp2_with fail
 go_loopg [3] (N+1) (fun gn dv wr=>∃k:Nat,k≤N∧gn=N+1-k∧dv= .int .i64 ((k:Int)+1)∧Hid (B1s (N-k) (k+1) s=T)∧wr=w)
 case atStart=>exact⟨0,by omega,by omega,by go_num,Lib.hid (by rw[HT.out,HN.out];rfl),rfl⟩
 case round=>
  obtain⟨k,hk,rfl,rfl,HF,rfl⟩:=hrel;by_cases hlt:k<N
  ·have k1:(k:Int)+1≤N:=by omega
   have hto:=fun w'=>show(Instr.slice 9 (.string ⟨s.toArray⟩) none (some (.int .i64 ((k:Int)+1))) none).run Tryz.prog w'= .ok (.string ⟨(s.take (k+1)).toArray⟩) w' from C4d w' s (k+1) (by rw[←HN.out];omega) (by omega)
   have HIT:=Lib.hid (fun w=>A7a w (s.take (k+1)) (by rw[List.length_take];omega));rw[←B7k]at HIT;have HF2:=HF.out;rw[show N-k=(N-(k+1))+1 by omega,B1s]at HF2
   cases hy:C1e (s.take (k+1))
   ·rw[hy]at HIT HF2;have HF3:=Lib.hid (show B1s (N-(k+1)) (k+1+1) s=T from HF2);clear HF2 hy hlt
    go_wp2_with fail
    refine(HIT.out wr).mono ?_;rintro e w1 ⟨rfl,rfl⟩
    go_wp2_with fail
    go_roundg (N+1-(k+1))
    case measure=>omega
    case rel=>exact⟨k+1,by omega,rfl,by go_num,HF3,rfl⟩
   ·rw[hy]at HIT HF2;have hT:k+1=T:=HF2;subst hT;clear HF2 hy hlt
    go_wp2_with fail
    refine(HIT.out wr).mono ?_;rintro e w1 ⟨rfl,rfl⟩
    go_wp2_with fail
    go_ret;exact⟨rfl,rfl⟩
  ·have k1:¬(k:Int)+1≤N:=by omega
   have hT:T=0:=by rw[←HF.out,show N-k=0 by omega];rfl
   subst hT;clear hlt
   go_wp2_with fail
   go_ret;exact⟨rfl,rfl⟩
def Ss{α:Type}(z:Nat)(enc:α→List Value)(w:World)(a:Option Addr)(n:Nat)(xs:List α):Prop:=
 xs.length=n∧(0<n→∃b off,a=some ⟨b,off,none⟩∧b<w.heap.size∧∀i (_:i<xs.length) j,j<z→w.cell? ⟨b,off+i*z+j,none⟩=(enc xs[i])[j]?)
theorem B7f(b o k:Nat):(⟨b,o,none⟩:Addr).add k=⟨b,o+k,none⟩:=by unfold Addr.add;split<;>simp_all
theorem A0f{w w':World}(h:Below w.heap.size w w'){a:Addr}{v:Value}(hc:w.cell? a=some v):w'.cell? a=some v:=by
 have hlt:a.block<w.heap.size:=by
  unfold World.cell? at hc
  cases hb:w.heap[a.block]? with
  |none=>rw[hb]at hc;simp at hc
  |some o=>exact(Array.getElem?_eq_some_iff.1 hb).1
 rw[h.cell hlt];exact hc
section
variable {α:Type} {z:Nat} {enc:α→List Value}
theorem Ss.below{w w':World}{a:Option Addr}{n:Nat}{xs:List α}(h:Ss z enc w a n xs)(hb:Below w.heap.size w w'):Ss z enc w' a n xs:=by
 refine⟨h.1,fun hn=> ?_⟩;obtain⟨b,off,ha,hlt,hc⟩:=h.2 hn;exact⟨b,off,ha,Nat.lt_of_lt_of_le hlt hb.size,fun i hi j hj=>by rw[hb.cell (by simpa using hlt)];exact hc i hi j hj⟩
theorem Ss.nil(w:World)(a:Option Addr):Ss z enc w a 0 []:=⟨rfl,fun h=>by omega⟩
theorem A6p(hz:∀x,(enc x).length=z)(xs:List α):(xs.flatMap enc).length=xs.length*z:=by
 induction xs with
 |nil=>simp
 |cons x xs ih=>rw[List.flatMap_cons,List.length_append,hz,ih,List.length_cons,Nat.add_mul,Nat.one_mul,Nat.add_comm]
theorem B5f(hz:∀x,(enc x).length=z)(xs:List α)(i:Nat)(hi:i<xs.length)(j:Nat)(hj:j<z):(xs.flatMap enc)[i*z+j]? =(enc xs[i])[j]? :=by
 induction xs generalizing i with
 |nil=>simp at hi
 |cons x xs ih=>
  rw[List.flatMap_cons]
  cases i with
  |zero=>rw[Nat.zero_mul,Nat.zero_add,List.getElem?_append_left (by rw[hz];exact hj)];simp
  |succ i=>
   rw[List.getElem?_append_right (by rw[hz,Nat.add_mul];omega),hz,show(i+1)*z+j-z=i*z+j by rw[Nat.add_mul];omega,ih i (by simpa using hi)];simp
theorem Ss.ofOwn(hz:∀x,(enc x).length=z)(z0:0<z){w:World}{base:Nat}{e:TypeId}{v:Value}{n:Nat}{xs:List α}(h:w.ownsRow base e z v n (xs.flatMap enc)):∃a cap,v= .slice a n cap∧Ss z enc w a n xs∧n≤cap:=by
 have hl:xs.length=n:=by
  have h1:=h.1;rw[A6p hz]at h1;exact Nat.eq_of_mul_eq_mul_right z0 h1
 rcases h.2 with⟨rfl,rfl⟩|⟨g,cap,cur,rfl,hb,hg,hnc,_,_,ht⟩
 ·exact⟨none,0,rfl,⟨hl,fun h=>by omega⟩,Nat.le_refl _⟩
 ·refine⟨_,cap,rfl,⟨hl,fun _=>⟨g,0,rfl,(Array.getElem?_eq_some_iff.1 hg).1,fun i hi j hj=> ?_⟩⟩,hnc⟩
  have hlt:i*z+j<n*z:=by
   have:(i+1)*z≤n*z:=Nat.mul_le_mul_right _ (by omega);rw[Nat.add_mul]at this;omega
  rw[Nat.zero_add,h.cellAt (i*z+j) hlt,B5f hz xs i hi j hj]
end
def StE(t e:TypeId)(z0:Value)(z bytes:Nat):Prop:=Tryz.prog.underlying t=some (.slice e)∧(Tryz.prog.info? e).map (fun i=>(i.zero,i.size,i.bytes))=some (some z0,z,bytes)∧z0.cells.size=z
theorem C2d{t e:TypeId}{z0:Value}{z bytes:Nat}(hO:StE t e z0 z bytes){w:World}{ops:Array Oper}{rest:List Oper}{o:Oper}{a:Act}{Q:Exit→Act→World→Prop}(hgd:Region.wanted o (yielded ops a.tmps)=true)(s x:Operand)(tx:TypeId)
  (ho:o.op= .call {callee:= .builtin .append,args:= #[s,x],argTypes:= #[t,tx]})
  (base:Nat) (v:Value) (n:Nat) (xs:List Value) (hv:a.eval s=v) (hown:w.ownsRow base e z v n xs)
  (y:Value) (m:Nat) (news:List Value) (hy:a.eval x=y) (hs:Src Tryz.prog z tx y m news w) (hlen:(n+m)*bytes≤140737488355328) (hm:n+m≤maxLen) (hbase:base≤w.heap.size)
  (h:∀v' w',w'.ownsRow base e z v' (n+m) (xs++news)→w.grownBy w' v.ownBlock→Below base w w'→wpList Tryz.prog ops Q rest (a.put o.dst v') w'):wpList Tryz.prog ops Q (o::rest) a w:=by
 obtain⟨ht,hinf,hz⟩:=hO;obtain⟨i0,hi,hz0,hz1,hz2⟩:=info_parts hinf
 exact A8f hgd s x t tx ho base e i0 z0 z bytes ht hi hz0 hz1 hz2 hz v n xs hv hown y m news hy hs hm hlen hbase (fun v' w' h1 h2 _=>h v' w' h1 h2 (B2c (Below.refl _ _) hbase hown h2))
theorem Src.litS{P:Program}{w:World}{z m c:Nat}{C:Array Value}{e tx e':TypeId}(hm:C.size=m*z)(hone:C.toList.all (·.oneCell')=true)(hk:P.underlying tx=some (.slice e')):
  Src P z tx (.slice (some ⟨w.heap.size,0,none⟩) m c) m C.toList (w.alloc (.cells C e)):=by
 refine Src.ofSlice _ hk ⟨w.heap.size,0,none⟩ m c _ (by simpa using hm) (fun j u hu=> ?_) (fun u hu=>List.all_eq_true.1 hone u hu)
 rw[B7f,Nat.zero_add,cell_of_row _ w.heap.size j _ _ _ (heap_alloc_last w _)];simpa using hu
theorem A0r{t e:TypeId}{z0:Value}{z bytes:Nat}(hO:StE t e z0 z bytes){w:World}{ops:Array Oper}{rest:List Oper}{o:Oper}{a:Act}{Q:Exit→Act→World→Prop}(hgd:Region.wanted o (yielded ops a.tmps)=true)(s x:Operand)
  (ho:o.op= .call {callee:= .builtin .append,args:= #[s,x],argTypes:= #[t,t]})
  (base:Nat) (v:Value) (n:Nat) (xs:List Value) (hv:a.eval s=v) (hown:w.ownsRow base e z v n xs)
  (C:Array Value) (m c sz:Nat) (hy:a.eval x= .slice (some ⟨sz,0,none⟩) m c) (hsz:w.heap.size=sz) (hC:C.size=m*z) (hone:C.toList.all (·.oneCell')=true) (hlen:(n+m)*bytes≤140737488355328) (hm:n+m≤maxLen) (hbase:base≤w.heap.size)
  (h:∀v' w',w'.ownsRow base e z v' (n+m) (xs++C.toList)→(w.alloc (.cells C e)).grownBy w' v.ownBlock→Below base w w'→wpList Tryz.prog ops Q rest (a.put o.dst v') w'):wpList Tryz.prog ops Q (o::rest) a (w.alloc (.cells C e)):=by
 subst hsz
 exact C2d hO hgd s x t ho base v n xs hv (hown.alloc _) _ m _ hy (Src.litS hC hone hO.1) hlen hm (by simp;omega)
  (fun v' w' h1 h2 h3=>h v' w' h1 h2 (((Below.refl _ _).alloc hbase _).trans h3))
theorem A1k{t e:TypeId}{z:Value}{bytes:Nat}(hO:C9e t e z bytes){w:World}{ops:Array Oper}{rest:List Oper}{o:Oper}{a:Act}{Q:Exit→Act→World→Prop}(hgd:Region.wanted o (yielded ops a.tmps)=true)(s x:Operand)
  (ho:o.op= .call {callee:= .builtin .append,args:= #[s,x],argTypes:= #[t,t]})
  (base:Nat) (v:Value) (n:Nat) (xs:List Value) (hv:a.eval s=v) (hown:w.ownsRow base e 1 v n xs)
  (C:Array Value) (m c sz:Nat) (hy:a.eval x= .slice (some ⟨sz,0,none⟩) m c) (hsz:w.heap.size=sz) (hC:C.size=m) (hone:C.toList.all (·.oneCell')=true) (hlen:(n+m)*bytes≤140737488355328) (hm:n+m≤maxLen) (hbase:base≤w.heap.size)
  (h:∀v' w',w'.ownsRow base e 1 v' (n+m) (xs++C.toList)→(w.alloc (.cells C e)).grownBy w' v.ownBlock→Below base w w'→wpList Tryz.prog ops Q rest (a.put o.dst v') w'):wpList Tryz.prog ops Q (o::rest) a (w.alloc (.cells C e)):=by
 subst hsz;exact A6b hO hgd s x ho base v n xs hv hown C m c hy hC hone hlen hm hbase h
theorem C2g(w:World)(s:List UInt8)(hl:s.length≤65536):Calls Tryz.prog 116 #[.string ⟨s.toArray⟩] w (C9u (A3x s) w):=by
 have HB0:=Lib.hid (Below.refl w.heap.size w)
 cases s with
 |nil=>
  have hT:A3x []=false:=rfl;rw[hT];clear hT;go_enter Tryz.func116,Tryz.ntmps116
  go_wp2_with fail
  go_ret3;exact⟨⟨_,_,rfl⟩,HB0.out⟩
 |cons c0 r=>
 have hix0:(({data:=(c0::r).toArray}:ByteArray)[0]'(by rw[A4m];simp)).toNat=c0.toNat:=rfl;by_cases h40:c0=40
 ·have q40:((c0.toNat:Int)==40)=true:=by rw[h40];rfl
  have hM:A3x (c0::r)=C1r (A9i 16 r):=by rw[h40];exact B6v r
  have hrl:r.length≤65536:=by simp at hl;omega
  have hfr0:=fun w'=>show(Instr.slice 9 (.string ⟨(c0::r).toArray⟩) (some (.int .i64 1)) none none).run Tryz.prog w'= .ok (.string ⟨r.toArray⟩) w' from A6r w' (c0::r) 1 (by simp) (by simp;omega)
  rw[hM];obtain⟨A0,hA0⟩:∃A0,A0=A9i 16 r:=⟨_,rfl⟩;have HA0:=Lib.hid hA0;rw[←hA0];obtain⟨T,hT⟩:∃T,T=C1r A0:=⟨_,rfl⟩;have HT0:=Lib.hid hT;rw[←hT];clear h40 hl hA0 hT hM
  go_enter Tryz.func116,Tryz.ntmps116
  go_wp2_with fail
  simp only[show((c0.toNat:Int) !=40)=false by rw[bne,q40];rfl];clear hfr0 hix0 q40
  go_loopg [6,5] 17 (fun gn sv av wr=>∃(k:Nat) (r:List UInt8) (L:List (List UInt8)) (a:Option Addr) (c:Nat),k≤16∧gn=17-k∧sv= .string ⟨r.toArray⟩∧av= .slice a k c∧r.length≤65536∧Hid (A9i (16-k) r=A0)∧Hid (wr.ownsRow w.heap.size 9 1 (.slice a k c) k (L.map A7h))∧Hid (Below w.heap.size w wr))
  case atStart=>exact⟨0,r,[],none,0,by omega,by omega,rfl,rfl,hrl,Lib.hid HA0.out.symm,Lib.hid (World.ownsRow_nil _ _ _ _),HB0⟩
  case round=>
   obtain⟨k,r,L,a,c,hk,rfl,rfl,rfl,hrl,HA,HO,HB⟩:=hrel
   cases r with
   |nil=>
    have hT:T=false:=by rw[HT0.out,←HA.out,A9z _ _ (.inl rfl)];rfl
    subst hT
    go_wp2_with fail
    go_ret3;exact⟨⟨_,_,rfl⟩,HB.out⟩
   |cons d t=>
    have hix:(({data:=(d::t).toArray}:ByteArray)[0]'(by rw[A4m];simp)).toNat=d.toNat:=rfl;by_cases h41:d=41
    ·have q41:((d.toNat:Int)==41)=true:=by rw[h41];rfl
     have hA:A0=some (d::t):=by rw[←HA.out,A9z _ _ (.inr (by rw[h41];rfl))]
     have hfr:=fun w'=>show(Instr.slice 9 (.string ⟨(d::t).toArray⟩) (some (.int .i64 1)) none none).run Tryz.prog w'= .ok (.string ⟨t.toArray⟩) w' from A6r w' (d::t) 1 (by simp) (by simp at hrl⊢;omega)
     have HTB:=Lib.hid (show T=(decide (t=[86])||typeB t) by rw[HT0.out,hA,h41];simp[C1r]);have htl:t.length≤65536:=by simp at hrl;omega
     have HTY:=Lib.hid (fun w=>A7a w t htl);obtain⟨y,hy⟩:∃y,y=typeB t:=⟨_,rfl⟩;rw[←hy]at HTB HTY;clear hA h41 hrl hy
     cases y
     ·by_cases h86:t=[86]
      ·have hT:T=true:=by rw[HTB.out,decide_eq_true h86,Bool.true_or]
       subst hT;have he:(t==[86])=true:=by simpa using h86
       clear h86
       go_wp2_with fail
       refine(HTY.out wr).mono ?_;rintro e w2 ⟨rfl,rfl⟩
       go_upto_region 13 with fail
       go_quiet (fail)
       go_wp2_with fail
       go_ret3;exact⟨⟨_,_,rfl⟩,HB.out.trans ((A7j _ _).mono HB.out.size)⟩
      ·have hT:T=false:=by rw[HTB.out,decide_eq_false h86,Bool.false_or]
       subst hT;have he:(t==[86])=false:=by simpa using h86
       clear h86
       go_wp2_with fail
       refine(HTY.out wr).mono ?_;rintro e w2 ⟨rfl,rfl⟩
       go_wp2_with fail
       go_ret3;exact⟨⟨_,_,rfl⟩,HB.out⟩
     ·have hT:T=true:=by rw[HTB.out,Bool.or_true]
      subst hT
      go_wp2_with fail
      refine(HTY.out wr).mono ?_;rintro e w2 ⟨rfl,rfl⟩
      go_upto_region 13 with fail
      go_quiet (fail)
      go_wp2_with fail
      go_ret3;exact⟨⟨_,_,rfl⟩,HB.out.trans ((A7j _ _).mono HB.out.size)⟩
    ·have q41:((d.toNat:Int)==41)=false:=by
      rw[beq_eq_false_iff_ne];intro h;exact h41 (UInt8.toNat_inj.1 (by rw[show(41:UInt8).toNat=41 from rfl];omega))
     obtain⟨m,hm⟩:∃m,m=A7x (d::t):=⟨_,rfl⟩;have hml:=B5s (d::t);have HCU:=Lib.hid (C5t wr (d::t) hrl);rw[←hm]at HCU hml;by_cases h0:m=0
     ·have hT:T=false:=by
       rw[HT0.out,←HA.out];by_cases hk6:k=16
       ·subst hk6;rw[A9y d t h41];rfl
       ·rw[show 16-k=(15-k)+1 by omega,B0a _ d t h41,←hm,if_pos h0];rfl
      subst hT;rw[h0,List.take_zero]at HCU;clear HA hm hml h0 h41
      go_wp2_with fail
      refine HCU.out.mono ?_;rintro e w2 ⟨rfl,rfl⟩
      go_wp2_with fail
      go_ret3;exact⟨⟨_,_,rfl⟩,HB.out⟩
     ·obtain⟨m1,hm1⟩:∃m1,m=m1+1:=⟨m-1,by omega⟩;have HU:=Lib.hid (show(d::t).take m=d::t.take m1 by rw[hm1,List.take_succ_cons]);rw[HU.out]at HCU
      have HUL:=Lib.hid (show(t.take m1).length=m1 by rw[List.length_take];simp at hml;omega);by_cases hk6:k=16
      ·have hT:T=false:=by
        rw[HT0.out,←HA.out];subst hk6;rw[A9y d t h41];rfl
       subst hT;have k16:((k:Int)==16)=true:=by rw[hk6];rfl
       generalize t.take m1=u at*;clear HA hm hml h0 h41 hk6 hk
       go_wp2_with fail
       refine HCU.out.mono ?_;rintro e w2 ⟨rfl,rfl⟩
       go_wp2_with fail
       go_ret3;exact⟨⟨_,_,rfl⟩,HB.out⟩
      ·have k16:((k:Int)==16)=false:=by rw[beq_eq_false_iff_ne];omega
       have HA2:=Lib.hid (show A9i (16-(k+1)) ((d::t).drop m)=A0 by
        rw[←HA.out,show 16-k=(16-(k+1))+1 by omega,B0a _ d t h41,←hm,if_neg h0])
       have hfr:=fun w'=>show(Instr.slice 9 (.string ⟨(d::t).toArray⟩) (some (.int .i64 ((m1:Int)+1))) none none).run Tryz.prog w'= .ok (.string ⟨((d::t).drop m).toArray⟩) w' from by
        have:=A6r w' (d::t) m hml (by omega);subst hm1;exact this
       have HDL:=Lib.hid (show((d::t).drop m).length≤65536 by rw[List.length_drop];omega);have hul:=HUL.out;generalize(d::t).drop m=r2 at*;generalize t.take m1=u at*;subst hul
       have k15:k≤15:=by omega
       have hk0:(0:Int)≤(u.length:Int)+1:=by omega
       clear hm hml h0 h41 hk6 hk hm1 HA HU HUL
       go_wp2_with fail
       refine HCU.out.mono ?_;rintro e w2 ⟨rfl,rfl⟩
       go_wp2_with (at_builtin;refine A1k C4u rfl _ _ rfl w.heap.size _ k _ rfl HO.out _ 1 _ _ rfl (by simp) rfl rfl (by omega) (by unfold maxLen;omega) HB.out.size ?_;intro v3 w3 hown3 hg3 hb3;obtain⟨a3,c3,rfl,-,-⟩:=Sl.ofOwn (enc:=A7h) (xs:=L++[d::u]) (by rw[List.map_append];exact hown3);have HO3:=Lib.hid (show w3.ownsRow w.heap.size 9 1 (.slice a3 (k+1) c3) (k+1) ((L++[d::u]).map A7h) by rw[List.map_append];exact hown3);have HB3:=Lib.hid (HB.out.trans hb3);clear hown3 hg3 hb3)
       go_roundg (17-(k+1))
       case measure=>omega
       case rel=>exact⟨k+1,r2,L++[d::u],_,_,by omega,rfl,rfl,rfl,HDL.out,HA2,HO3,HB3⟩
 ·have hT:A3x (c0::r)=false:=by simp[A3x,h40]
  rw[hT]
  have q40:((c0.toNat:Int)==40)=false:=by
   rw[beq_eq_false_iff_ne];intro h;exact h40 (UInt8.toNat_inj.1 (by rw[show(40:UInt8).toNat=40 from rfl];omega))
  clear hT h40;go_enter Tryz.func116,Tryz.ntmps116
  go_wp2_with fail
  go_ret3;exact⟨⟨_,_,rfl⟩,HB0.out⟩
theorem B1y(w:World)(s:List UInt8)(hl:s.length≤65536):Calls Tryz.prog 66 #[.string ⟨s.toArray⟩] w fun e w'=>e= .returned (.bool (A3x s))∧Below w.heap.size w w':=by
 have HM:=Lib.hid (C2g w s hl);generalize A3x s=T at*;clear hl
 cases T
 ·go_enter Tryz.func66,Tryz.ntmps66
  go_wp2_with fail
  refine HM.out.mono ?_;rintro e w1 ⟨⟨v1,v2,rfl⟩,hb⟩;simp only[Bool.false_eq_true,if_false]
  go_wp2_with fail
  go_ret;exact⟨rfl,hb⟩
 ·go_enter Tryz.func66,Tryz.ntmps66
  go_wp2_with fail
  refine HM.out.mono ?_;rintro e w1 ⟨⟨v1,v2,rfl⟩,hb⟩;simp only[if_true]
  go_wp2_with fail
  go_ret;exact⟨rfl,hb⟩
theorem B3h(w:World)(s:List UInt8)(hl:s.length≤65536):Calls Tryz.prog 118 #[.string ⟨s.toArray⟩] w fun e w'=>e= .returned (.bool (A2z s))∧w'=w:=by
 cases s with
 |nil=>
  have hT:A2z []=false:=rfl;rw[hT];clear hT;go_enter Tryz.func118,Tryz.ntmps118
  go_wp2_with fail
  go_ret;exact⟨rfl,rfl⟩
 |cons c r=>
  have hix:(({data:=(c::r).toArray}:ByteArray)[0]'(by rw[A4m];simp)).toNat=c.toNat:=rfl;have HT:=Lib.hid (fun w=>A7a w (c::r) hl);by_cases h91:c=91
  ·have q91:((c.toNat:Int)==91)=true:=by rw[h91];rfl
   have HR:=Lib.hid (show A2z (c::r)=typeB (c::r) by simp[A2z,h91]);generalize A2z (c::r)=R at*;generalize typeB (c::r)=T at*;clear h91;go_enter Tryz.func118,Tryz.ntmps118
   go_wp2_with fail
   refine(HT.out w).mono ?_;rintro e w1 ⟨rfl,rfl⟩
   go_wp2_with fail
   go_ret;exact⟨A2n HR.out.symm,rfl⟩
  ·have q91:((c.toNat:Int)==91)=false:=by
    rw[beq_eq_false_iff_ne];intro h;exact h91 (UInt8.toNat_inj.1 (by rw[show(91:UInt8).toNat=91 from rfl];omega))
   have HR:=Lib.hid (show A2z (c::r)=false by simp[A2z,h91]);generalize A2z (c::r)=R at*;clear h91;go_enter Tryz.func118,Tryz.ntmps118
   go_wp2_with fail
   go_ret;exact⟨A2n HR.out.symm,rfl⟩
theorem A8p(w:World)(s:List UInt8)(hl:s.length≤65536):Calls Tryz.prog 18 #[.string ⟨s.toArray⟩] w fun e w'=>e= .returned (.bool (A7v s))∧w'=w:=by
 obtain⟨R,hR⟩:∃R,R=A7v s:=⟨_,rfl⟩;have HR:=Lib.hid hR;rw[←hR];have HC:=Lib.hid (fun w=>A2u w s (by omega));have HIX:=Lib.hid (fun w' i h=>B8d w' s i h)
 obtain⟨N,hN⟩:∃N,N=s.length:=⟨_,rfl⟩;have hsz:(⟨s.toArray⟩:ByteArray).size=N:=by rw[hN];exact A4m s
 have HN:=Lib.hid hN;have hNl:N≤65536:=by omega
 clear hR hN;go_enter Tryz.func18,Tryz.ntmps18
 go_wp2_with fail
 go_loopg [3] N (fun gn dv wr=>∃k:Nat,k≤N∧gn=N-k∧dv= .int .i64 k∧Hid (∀i (h:i<s.length),i<k→¬s[i]=47)∧wr=w)
 case atStart=>exact⟨0,by omega,by omega,by go_num,Lib.hid (fun i h h0=>by omega),rfl⟩
 case round=>
  obtain⟨k,hk,rfl,rfl,HG,rfl⟩:=hrel;by_cases hlt:k<N
  ·have k1:(k:Int)<N:=by omega
   have hkl:k<s.length:=by rw[←HN.out];exact hlt
   have hix:=fun w'=>HIX.out w' k hkl
   have HX:=Lib.hid (show ¬s[k]=47→∀i (h:i<s.length),i<k+1→¬s[i]=47 from fun h i hi hi2=>by
    rcases Nat.lt_or_ge i k with h1|h1
    ·exact HG.out i hi h1
    ·obtain rfl:i=k:=by omega
     exact h)
   have HY:=Lib.hid (show s[k]=47→R=false from fun h=>by
    rw[HR.out]
    have:s.contains 47=true:=by
     rw[List.contains_iff_mem,←h];exact List.getElem_mem hkl
    unfold A7v;rw[this];rfl)
   generalize s[k]=c at*;clear hkl;by_cases h47:c=47
   ·have hRf:=HY.out h47;subst hRf;have q47:((c.toNat:Int)==47)=true:=by rw[h47];rfl
    clear h47 hlt
    go_wp2_with fail
    go_ret;exact⟨rfl,rfl⟩
   ·have HX2:=Lib.hid (HX.out h47)
    have q47:((c.toNat:Int)==47)=false:=by
     rw[beq_eq_false_iff_ne];intro h;exact h47 (UInt8.toNat_inj.1 (by rw[show(47:UInt8).toNat=47 from rfl];omega))
    clear h47 hlt
    go_wp2_with fail
    go_roundg (N-(k+1))
    case measure=>omega
    case rel=>exact⟨k+1,by omega,rfl,by go_num,HX2,rfl⟩
  ·have k1:¬(k:Int)<N:=by omega
   have hRf:R=classB s:=by
    rw[HR.out]
    have:s.contains 47=false:=by
     rw[←Bool.not_eq_true,List.contains_iff_mem];intro hm;obtain⟨i,hi,e⟩:=List.getElem_of_mem hm;exact HG.out i hi (by have:=HN.out;omega) e
    unfold A7v;rw[this];rfl
   subst hRf;clear hlt
   go_wp2_with fail
   refine(HC.out wr).mono ?_;rintro e w1 ⟨rfl,rfl⟩
   go_wp2_with fail
   go_ret;exact⟨rfl,rfl⟩
end
section
theorem B1f(v n:Nat):A6t v (n+1)=A6t (v/256) n++[UInt8.ofNat (v%256)]:=by
 unfold A6t;rw[List.range_succ,List.map_append];congr 1
 ·apply List.map_congr_left;intro i hi;have hi:=List.mem_range.1 hi;rw[show n+1-1-i=(n-1-i)+1 by omega,Nat.pow_succ,Nat.mul_comm,←Nat.div_div_eq_div_mul]
 ·simp
theorem D1c(cs:List UInt8):A6t (B5z cs) cs.length=cs:=by
 generalize hn:cs.length=n
 induction n generalizing cs with
 |zero=>rw[List.length_eq_zero_iff.1 hn];rfl
 |succ n ih=>
  have h1:cs≠[]:=by intro h;rw[h]at hn;simp at hn
  obtain⟨ds,c,rfl⟩:∃ds c,cs=ds++[c]:=⟨cs.dropLast,cs.getLast h1,(List.dropLast_concat_getLast h1).symm⟩;have hl:ds.length=n:=by simpa using hn
  have hc:=c.toNat_lt;rw[B1f,B5p,show(B5z ds*256+c.toNat)/256=B5z ds by omega,show(B5z ds*256+c.toNat)%256=c.toNat by omega,ih ds hl];simp
theorem D7b(v n:Nat):B5z (A6t v n)=v%256^n:=by
 induction n generalizing v with
 |zero=>simp[A6t,B5z,Nat.mod_one]
 |succ n ih=>
  rw[B1f,B5p,ih,UInt8.toNat_ofNat_of_lt' (by show v%256<256;omega),Nat.pow_succ,Nat.mul_comm (256^n) 256,Nat.mod_mul];omega
end
section
open Go.ChangeShapes Go.WideShapes Go.ChangeAt Go.RowKit
structure KV where
 tag:Int
 a:Int
 b:Int
 n:Int
 s:List UInt8
def KV.cells(c:KV):List Value:=[.int .i64 c.tag,.int .i64 c.a,.int .i64 c.b,.int .i64 c.n,.string ⟨c.s.toArray⟩]
theorem KV.cells_length(c:KV):c.cells.length=5:=rfl
def kz:KV:=⟨0,0,0,0,[]⟩
def kAt(l:List KV)(i:Int):KV:=l.getD i.toNat kz
def isT(l:List KV)(i t:Int):Bool:=decide (1≤i∧i<l.length∧(kAt l i).tag=t)
def A1p(l:List KV)(i:Int):List UInt8:=if isT l i 1 then(kAt l i).s else []
def A0s(l:List KV)(i:Int):List UInt8×Bool:=if isT l i 7 then(A1p l (kAt l i).a,isT l (kAt l i).a 1)else([],false)
def A1u(l:List KV)(i t:Int):List UInt8×List UInt8×List UInt8×Bool:=
 if(t=9∨t=10)∧isT l i t=true∧isT l (kAt l i).b 12=true∧(A0s l (kAt l i).a).2=true∧isT l (kAt l (kAt l i).b).a 1=true∧isT l (kAt l (kAt l i).b).b 1=true then
  ((A0s l (kAt l i).a).1,A1p l (kAt l (kAt l i).b).a,A1p l (kAt l (kAt l i).b).b,true)
 else([],[],[],false)
def A0w(c:KV):Bool:=
 (decide (c.tag=1)||c.s.isEmpty)&&(decide (c.tag=5)||decide (c.n=0)||decide (c.tag=3∧-2147483648≤c.n∧c.n≤2147483647))&&
 (decide (c.tag=9∨c.tag=10∨c.tag=12)||decide (c.b=0))&&(decide (c.tag=9∨c.tag=10∨c.tag=12∨c.tag=7∨c.tag=8)||decide (c.a=0))
def A1j(l:List KV)(i:Nat):Bool:=
 let c:=kAt l i
 if c.tag=0 then i==0||decide ((kAt l ((i:Int) -1)).tag=5)
 else if c.tag=1 then(A3p c.s).isSome&&decide (c.s.length≤65535)
 else if c.tag=3 then true
 else if c.tag=5 then decide (i+1<l.length)&&decide ((kAt l ((i:Int)+1)).tag=0)
 else if c.tag=12 then isT l c.a 1&&isT l c.b 1
 else if c.tag=7∨c.tag=8 then isT l c.a 1
 else if c.tag=9∨c.tag=10 then isT l c.a 7&&isT l c.b 12
 else false
def A1h(l:List KV)(i:Nat):Bool:=A0w (kAt l i)&&A1j l i
def A5a(l:List KV):Bool:=decide (1≤l.length)&&decide (l.length≤1024)&&decide ((kAt l 0).tag=0)&&(List.range l.length).all (A1h l)
def Ks(w:World)(a:Option Addr)(n:Nat)(L:List KV):Prop:=Ss 5 KV.cells w a n L
structure KAt(w:World)(b o:Nat)(c:KV):Prop where
 c0:w.cell? ⟨b,o,none⟩=some (.int .i64 c.tag)
 c1:w.cell? ⟨b,o+1,none⟩=some (.int .i64 c.a)
 c2:w.cell? ⟨b,o+2,none⟩=some (.int .i64 c.b)
 c3:w.cell? ⟨b,o+3,none⟩=some (.int .i64 c.n)
 c4:w.cell? ⟨b,o+4,none⟩=some (.string ⟨c.s.toArray⟩)
theorem Ks.below{w w':World}{a:Option Addr}{n:Nat}{L:List KV}(h:Ks w a n L)(hb:Below w.heap.size w w'):Ks w' a n L:=Ss.below h hb
theorem Ks.at{w:World}{a:Option Addr}{n:Nat}{L:List KV}(h:Ks w a n L)(i:Nat)(hi:i<n):∃b off,a=some ⟨b,off,none⟩∧b<w.heap.size∧KAt w b (off+i*5) (kAt L i):=by
 obtain⟨b,off,ha,hlt,hc⟩:=h.2 (by omega);have hl:i<L.length:=by rw[h.1];exact hi
 have hk:kAt L i=L[i]:=by unfold kAt;simp[List.getD,hl]
 refine⟨b,off,ha,hlt,?_⟩;rw[hk];exact⟨hc i hl 0 (by omega),hc i hl 1 (by omega),hc i hl 2 (by omega),hc i hl 3 (by omega),hc i hl 4 (by omega)⟩
theorem C8m{L:List KV}{i t:Int}(h:i<1):isT L i t=false:=by unfold isT;rw[decide_eq_false];omega
theorem C5a{L:List KV}{i t:Int}(h:(L.length:Int)≤i):isT L i t=false:=by unfold isT;rw[decide_eq_false];omega
theorem D5c{L:List KV}{i t:Int}(h0:1≤i)(h1:i<L.length):isT L i t=decide ((kAt L i).tag=t):=by
 unfold isT;by_cases h:(kAt L i).tag=t
 ·rw[decide_eq_true h,decide_eq_true ⟨h0,h1,h⟩]
 ·rw[decide_eq_false h,decide_eq_false fun x=>h x.2.2]
theorem A5e{L:List KV}{i t:Int}(h:isT L i t=true):1≤i∧i<L.length∧(kAt L i).tag=t:=of_decide_eq_true h
theorem A8y(w:World)(a:Option Addr)(n cap:Nat)(L:List KV)(i t:Int)(hs:Ks w a n L)(hn:n≤65536):
  Calls Tryz.prog 93 #[.slice a n cap,.int .i64 i,.int .i64 t] w fun e w'=>e= .returned (.bool (isT L i t))∧w=w':=by
 by_cases h1:i<1
 ·rw[C8m h1];have h0:decide (0<i)=false:=by simp;omega
  clear hs;go_enter Tryz.func93,Tryz.ntmps93
  go_wp2_with fail
  go_ret;exact⟨rfl,rfl⟩
 ·by_cases h2:(n:Int)≤i
  ·rw[C5a (by rw[hs.1];exact h2)];have h0:decide (0<i)=true:=by simp;omega
   have h3:decide (i<(n:Int))=false:=by simp;omega
   clear hs;go_enter Tryz.func93,Tryz.ntmps93
   go_wp2_with fail
   go_ret;exact⟨rfl,rfl⟩
  ·obtain⟨k,rfl⟩:∃k:Nat,i=k:=⟨i.toNat,by omega⟩;rw[D5c (by omega) (by rw[hs.1];omega)];obtain⟨b,off,rfl,_,hk⟩:=hs.at k (by omega);have g0:=hk.c0;have k0:0<k:=by omega
   have k1:k<n:=by omega
   obtain⟨t0,ht0⟩:∃t0,t0=(kAt L k).tag:=⟨_,rfl⟩;rw[←ht0]at g0⊢;clear hk hs h1 h2 ht0;by_cases ht:t0=t
   ·subst ht;have e1:(t0==t0)=true:=by simp
    go_enter Tryz.func93,Tryz.ntmps93
    go_wp2_with fail
    go_ret;exact⟨by simp,rfl⟩
   ·have e1:(t0==t)=false:=by simp[ht]
    rw[decide_eq_false ht];clear ht;go_enter Tryz.func93,Tryz.ntmps93
    go_wp2_with fail
    go_ret;exact⟨rfl,rfl⟩
end
end Go.Proofs.YtclpkipaehpkdaaGreatDoor
