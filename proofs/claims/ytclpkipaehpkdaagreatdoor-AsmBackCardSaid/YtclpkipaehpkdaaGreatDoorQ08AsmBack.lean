/- asm -/
import Derived.Test.YtclpkipaehpkdaaGreatDoorQ05AsmBack
import Derived.Test.YtclpkipaehpkdaaGreatDoorQ04AsmBack
set_option linter.unusedVariables false
set_option linter.unusedSimpArgs false
set_option maxRecDepth 100000
set_option maxHeartbeats 64000000
open Go.Proofs.Tryz
namespace Go.Proofs.YtclpkipaehpkdaaGreatDoor
section
open Go.ChangeShapes Go.WideShapes Go.ChangeAt Go.RowKit
attribute [local go_sem↓] Go.wp_at_zero Go.wp_at_succ
theorem dA(w:World)(a:Option Addr)(n cap:Nat)(bs:List UInt8)(hs:Sl yp w a n bs)(hn:n<=65536)(Zv:n<=cap):
  Calls prog 151 #[.slice a n cap] w (eQ w (wn bs)):=by
 have HS:=Z' hs;have Wt:=hs.1;clear hs;go_enter func151,ntmps151
 go_wp2
 go_loopw [4,5] (fun t i wr=>∃j f k:Nat,i= .int .i64 j/\j<=n/\n-j<=f/\k<=j/\∃us,Hid (wr.ownsRow w.heap.size 231 1 t k (us.map rY))/\Hid (Below w.heap.size w wr)/\Hid (wn bs=(ug f (bs.drop j)).map (us++·))) (fun _ i _=>n-(intOf i).toNat)
 case atStart=>exact⟨0,n,0,rfl,by omega,by omega,by omega,[],World.ownsRow_nil _ _ _ _,Z6,by show _=_;unfold wn;rw[Wt];simp⟩
 obtain⟨j,f,k,rfl,hj,hf,hkj,us,HO,HW,HD⟩:=hrel;by_cases ZX:j<n
 ·obtain⟨b,off,rfl,Zu,hc⟩:=(HS.out.below HW.out).2 (by omega);have YP:j<bs.length:=by omega
  obtain⟨f,rfl⟩:∃f',f=f'+1:=⟨f-1,by omega⟩;have ZF:bs.drop j≠[]:=by rw[Ne,List.drop_eq_nil_iff];omega
  have Wg:=Z' (jP (f:=f) (bs:=bs.drop j) (by rw[List.length_drop];omega) ZF);have D7:=D9m (bs.drop j) ZF;clear ZF;have VV:wr.cell? ⟨b,off+j,none⟩=some (.int .u8 (bs[j].toNat:Int)):=hc j YP
  have E1:vA (bs.drop j)=tF bs[j].toNat (n-j) (bs[j+1]?.getD 0).toNat (bs[j+2]?.getD 0).toNat:=by
   unfold vA;simp[Wt,List.getElem?_eq_getElem YP]
  obtain⟨c,Pe⟩:=Z8 (bs[j].toNat);have Yz:c<256:=by have:=bs[j].toNat_lt;omega
  rw[<-Pe]at VV E1;obtain⟨v,hv⟩:∃v,v=(vA (bs.drop j)).1:=⟨_,rfl⟩;obtain⟨q,hq⟩:∃q,q=(vA (bs.drop j)).2:=⟨_,rfl⟩;rw[<-hv,<-hq]at D7;have Uu:=Z' D7;clear D7;have HV:=Z' hv;have HQ:=Z' hq;have Js:=Z' E1;have XZ:(0:Int)<=(j:Int):=by omega
  have Li:(192<=c/\c<224/\j+1<n)\/(224<=c/\c<240/\j+2<n)\/c<192\/(192<=c/\c<224/\n<=j+1)\/(224<=c/\c<240/\n<=j+2)\/240<=c:=by omega
  have SD:∀m,j+m<=n->Sl yp w (some ⟨b,off+j,none⟩) m ((bs.drop j).take m):=fun m hm=>by
   obtain⟨b',off',he,Lg⟩:=HS.out.drop ZX;simp only[Option.some.injEq,Addr.mk.injEq,and_true]at he;rw[he.1,he.2];exact Lg.take (by omega)
  have MX:=Z' SD;clear hv hq E1 Pe Zu SD
  rcases Li with⟨c3,c4,c5⟩|⟨c3,c4,c5⟩|c3|⟨c3,c4,c5⟩|⟨c3,c4,c5⟩|c3
  case' inl=>
   have SZ:j+1<bs.length:=by omega
   have Rc:wr.cell? ⟨b,off+(j+1),none⟩=some (.int .u8 (bs[j+1].toNat:Int)):=hc (j+1) SZ
   have hr:vA (bs.drop j)=(((c:Int) -192)*64+bs[j+1].toNat-128,2):=by
    rw[Js.out,List.getElem?_eq_getElem SZ];unfold tF;rw[if_pos ⟨c3,c4,by omega⟩];rfl
   obtain⟨x,NW⟩:∃c,c=bs[j+1].toNat:=⟨_,rfl⟩;have Pm:x<256:=by have:=bs[j+1].toNat_lt;omega
   rw[<-NW]at Rc hr;have HR:=Z' hr;have LY:=Z' (MX.out 2 (by omega));have WF:=Z' (show q=2 by rw[HQ.out,hr]);obtain⟨S,hS⟩:∃S,S=(bs.drop j).take 2:=⟨_,rfl⟩;rw[<-hS]at LY;have Ht:=Z' (show S=(bs.drop j).take q by rw[WF.out,hS]);clear hS;have NH:((c:Int) -192)*64+x-128=v:=by rw[HV.out,hr]
   have US:=Z' NH;clear hc NW hr YP SZ NH
   go_wp2_with fail
   rw[US.out];have DH:j+2<=n:=by omega
   have g4:(j:Int)+2<=(cap:Int):=by omega
   have g5:(0:Int)<=(j:Int)+2:=by omega
   have g6:(j:Int)<=(j:Int)+2:=by omega
   clear Rc VV US c3 c4 c5 Yz Pm;obtain⟨wx,Qe⟩:=Z8 (wr);rw[<-Qe]at HO HW⊢;clear Qe
  case' inr.inl=>
   have SZ:j+1<bs.length:=by omega
   have Nj:j+2<bs.length:=by omega
   have Rc:wr.cell? ⟨b,off+(j+1),none⟩=some (.int .u8 (bs[j+1].toNat:Int)):=hc (j+1) SZ;have Lh:wr.cell? ⟨b,off+(j+2),none⟩=some (.int .u8 (bs[j+2].toNat:Int)):=hc (j+2) Nj
   have hr:vA (bs.drop j)=(((c:Int) -224)*4096+((bs[j+1].toNat:Int) -128)*64+bs[j+2].toNat-128,3):=by
    rw[Js.out,List.getElem?_eq_getElem SZ,List.getElem?_eq_getElem Nj];unfold tF;rw[if_neg (by omega),if_pos ⟨c3,c4,by omega⟩];rfl
   obtain⟨x,NW⟩:∃c,c=bs[j+1].toNat:=⟨_,rfl⟩;have Pm:x<256:=by have:=bs[j+1].toNat_lt;omega
   obtain⟨y,Lk⟩:∃c,c=bs[j+2].toNat:=⟨_,rfl⟩;have Aa:y<256:=by have:=bs[j+2].toNat_lt;omega
   rw[<-NW]at Rc hr;rw[<-Lk]at Lh hr;have HR:=Z' hr;have LY:=Z' (MX.out 3 (by omega));have WF:=Z' (show q=3 by rw[HQ.out,hr]);obtain⟨S,hS⟩:∃S,S=(bs.drop j).take 3:=⟨_,rfl⟩;rw[<-hS]at LY;have Ht:=Z' (show S=(bs.drop j).take q by rw[WF.out,hS]);clear hS;have NH:((c:Int) -224)*4096+((x:Int) -128)*64+y-128=v:=by rw[HV.out,hr]
   have US:=Z' NH;have g1:(j:Int)+1<n:=by omega
   have g2:(j:Int)+2<n:=by omega
   clear hc NW Lk hr YP SZ Nj NH
   go_wp2_with fail
   go_quiet (fail)
   go_wp2_with fail
   rw[US.out];have DH:j+3<=n:=by omega
   have g4:(j:Int)+3<=(cap:Int):=by omega
   have g5:(0:Int)<=(j:Int)+3:=by omega
   have g6:(j:Int)<=(j:Int)+3:=by omega
   clear Rc Lh VV US c3 c4 c5 Yz Pm Aa g1 g2;replace HO:Hid ((wr.drewN nq).ownsRow w.heap.size 231 1 u4 k (us.map rY)):=HO;replace HW:Hid (Below w.heap.size w (wr.drewN nq)):=E5s HW.out nq;obtain⟨wx,Qe⟩:=Z8 (wr.drewN nq);rw[<-Qe]at HO HW⊢;clear Qe
  case' inr.inr.inl|inr.inr.inr.inl|inr.inr.inr.inr.inl|inr.inr.inr.inr.inr=>
   have hr:vA (bs.drop j)=((c:Int),1):=by
    rw[Js.out];unfold tF;rw[if_neg (by omega),if_neg (by omega)]
   have HR:=Z' hr;have LY:=Z' (MX.out 1 (by omega));have WF:=Z' (show q=1 by rw[HQ.out,hr]);obtain⟨S,hS⟩:∃S,S=(bs.drop j).take 1:=⟨_,rfl⟩;rw[<-hS]at LY;have Ht:=Z' (show S=(bs.drop j).take q by rw[WF.out,hS]);clear hS;have NH:(c:Int)=v:=by rw[HV.out,hr]
   have US:=Z' NH;clear hc hr YP NH
   go_wp2_with fail
   rw[US.out];have DH:j+1<=n:=by omega
   have g4:(j:Int)+1<=(cap:Int):=by omega
   have g5:(0:Int)<=(j:Int)+1:=by omega
   have g6:(j:Int)<=(j:Int)+1:=by omega
   obtain⟨wx,Qe⟩:=Z8 (wr);rw[<-Qe]at HO HW⊢;clear Qe VV US Yz
  all_goals
   have Hb:¬cap=j:=by omega
   have g1:(j:Int)<=(n:Int):=by omega
   by_cases inr:0<=v/\v<=65535
   ·obtain⟨i1,i2⟩:=inr;obtain⟨u,rfl⟩:=Int.eq_ofNat_of_zero_le i1;have FD:∀w',Below wx.heap.size wx w'->_:=fun w' h=>gG (LY.out.below (HW.out.trans (h.mono HW.out.size))) (cap-j)
    have u1:u<65536:=by omega
    have hd1:decide ((65535:Int)<(u:Int))=false:=by simp;omega
    have hd2:decide ((u:Int)<0)=false:=by simp
    have hd4:(u:Int)<=65535:=by omega
    have Z3:Below wx.heap.size wx wx.drew:=Z6.drew;clear i1 i2
    refine rX (Below wx.heap.size wx) [(0,true),(1,true),(2,true),(3,true),(4,true),(5,true),(6,true),(7,true),(8,true),(11,true),(12,true),(13,true),(14,true),(15,true),(16,true),(17,true),(9,false),(10,false),(18,true),(19,true)] (by kernel_rfl) (by kernel_rfl) (fun c a d v w h=>by cases d<;>exact h) ?_
    iterate 16
     refine xh fun K hK=>tkF ?_
     go_simp
     try go_bits
     refine hK _ _ ?_;clear hK K
    refine xh fun K hK=>alF ?_
    go_step;refine(cK _ u u1).mono ?_;rintro e w5 ⟨v5,m5,rfl,UJ,Yi⟩;obtain⟨a5,FE,rfl,JE,_⟩:=Sl.ofOwn UJ;replace Z3:Below wx.heap.size wx w5:=Z3.trans Yi;have Er:=gG JE FE;have H5:=Z7 HW Z3;clear UJ JE Yi;go_simp;refine hK _ _ ?_;clear hK K;refine xh fun K hK=>alF ?_
    go_step;refine hK _ _ ?_;clear hK K Er FD
    cases hE:(uX u==S)
    ·have HN:=Z' (show wn bs=none by
      rw[HD.out,Wg.out,if_pos (Uu.out.2 (fun h=>by
       have h3:=h.2.2;rw[Int.toNat_natCast,<-Ht.out]at h3;simp[h3]at hE))];rfl)
     iterate 2
      refine xh fun K hK=>tkF ?_
      go_simp
      try go_bits
      refine hK _ _ ?_;clear hK K
     refine sr ?_
     go_wp2_with fail
     go_ret2;rw[HN.out];exact⟨rfl,H5.out⟩
    have BG:uX u=S:=by simpa using hE
    have Cb:=Uu.out.1 ⟨by omega,by omega,by rw[Int.toNat_natCast,<-Ht.out];exact BG⟩;have Gm:q≠0:=by rw[WF.out];decide
    have NY:=Z' (show wn bs=(ug f (bs.drop (j+q))).map ((us++[UInt16.ofNat u])++·) by
     rw[HD.out,Wg.out,Cb,if_neg Gm,Int.toNat_natCast,List.drop_drop]
     cases ug f (bs.drop (j+q))<;>simp)
    rw[WF.out]at NY;have HE:=Z' (show(Value.int .u16 (u:Int))=rY (UInt16.ofNat u) by unfold rY;rw[UInt16.toNat_ofNat_of_lt' u1]);have U7:=Z' (wE HO.out Z3);clear BG Cb Gm
    iterate 2
     refine xh fun K hK=>tkF ?_
     go_simp
     try go_bits
     refine hK _ _ ?_;clear hK K
    refine sr ?_;clear hE Z3
    go_wp2_with (at_builtin;refine pQ j' rfl _ _ rfl w.heap.size _ _ _ rfl U7.out _ 1 _ rfl rfl rfl (by omega) (by unfold maxLen;omega) H5.out.size ?_;intro v1 w7 Yr Ua ZQ;have M3:=Z' Yr;have XB:=Z' (H5.out.trans ZQ);clear Yr Ua ZQ)
    go_roundw
    case rel=>exact⟨_,f,k+1,by go_num,by omega,by omega,by omega,us++[UInt16.ofNat u],by rw[List.map_append];show World.ownsRow _ _ _ _ _ _ (_++[_]);rw[<-HE.out];exact M3.out,XB,NY⟩
    simp[intOf];omega
   ·have HN:=Z' (show wn bs=none by rw[HD.out,Wg.out,if_pos (Uu.out.2 (fun h=>inr ⟨h.1,h.2.1⟩))];rfl);have Z3:Below wx.heap.size wx wx.drew:=Z6.drew;by_cases neg:v<0
    ·refine rX (Below wx.heap.size wx) [(0,true),(1,true),(2,true),(3,true),(4,true),(5,true),(6,true),(7,true),(8,true),(11,true),(12,true),(13,true),(14,true),(15,true),(16,true),(17,true),(9,false),(10,false),(18,true),(19,true)] (by kernel_rfl) (by kernel_rfl) (fun c a d v w h=>by cases d<;>exact h) ?_
     have hd:=decide_eq_true neg
     iterate 3
      refine xh fun K hK=>tkF ?_
      go_simp
      try go_bits
      refine hK _ _ ?_;clear hK K
     iterate 2
      refine xh fun K hK=>skF ?_
      go_simp;refine hK _ _ ?_;clear hK K
     iterate 2
      refine xh fun K hK=>tkF ?_
      go_simp
      try go_bits
      refine hK _ _ ?_;clear hK K
     iterate 12
      refine xh fun K hK=>skF ?_
      go_simp;refine hK _ _ ?_;clear hK K
     iterate 1
      refine xh fun K hK=>tkF ?_
      go_simp
      try go_bits
      refine hK _ _ ?_;clear hK K
     refine sr ?_
     go_wp2_with fail
     go_ret2;rw[HN.out];exact⟨rfl,HW.out.drew⟩
    have pos:65535<v:=by omega
    have hd:=decide_eq_true pos;have MD:=decide_eq_false neg
    refine rX (Below wx.heap.size wx) [(0,true),(1,true),(2,true),(3,true),(4,true),(5,true),(6,true),(7,true),(8,true),(11,true),(12,true),(13,true),(14,true),(15,true),(16,true),(17,true),(9,false),(10,false),(18,true),(19,true)] (by kernel_rfl) (by kernel_rfl) (fun c a d v w h=>by cases d<;>exact h) ?_
    iterate 7
     refine xh fun K hK=>tkF ?_
     go_simp
     try go_bits
     refine hK _ _ ?_;clear hK K
    iterate 12
     refine xh fun K hK=>skF ?_
     go_simp;refine hK _ _ ?_;clear hK K
    iterate 1
     refine xh fun K hK=>tkF ?_
     go_simp
     try go_bits
     refine hK _ _ ?_;clear hK K
    refine sr ?_
    go_wp2_with fail
    go_ret2;rw[HN.out];exact⟨rfl,HW.out.drew⟩
 have hN:wn bs=some us:=by
  rw[HD.out,List.drop_of_length_le (by omega)]
  cases f<;>simp[ug]
 have HN:=Z' hN;clear hN
 go_wp2
 go_ret2;rw[HN.out];exact⟨_,k,rfl,HO.out,HW.out⟩
end
end Go.Proofs.YtclpkipaehpkdaaGreatDoor
