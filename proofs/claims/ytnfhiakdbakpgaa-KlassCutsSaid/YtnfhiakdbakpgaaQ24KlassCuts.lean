/- utf: the reference's Decode (not finished: the drawn region with a call). -/
import Derived.Test.YtnfhiakdbakpgaaQ23KlassCuts
import Derived.Test.YtnfhiakdbakpgaaQ03KlassCuts
namespace Go.Proofs.Ytnfhiakdbakpgaa
open Go.ChangeShapes Go.WideShapes Go.ChangeAt Go.RowKit
attribute [local go_sem ↓] Go.wp_at_zero Go.wp_at_succ

set_option maxRecDepth 100000 in
set_option maxHeartbeats 4000000 in
theorem refDecode_any (w : World) (a : Option Addr) (n cap : Nat) (bs : List UInt8) (hs : Sl encB w a n bs) (hn : n ≤ 65536) (hcap : n ≤ cap) :
    Calls Try.prog 76 #[.slice a n cap] w (DecRet w (decodeB bs)) := by
  have HS := Lib.hid hs
  have hnl := hs.1
  clear hs
  go_enter Try.func76, Try.ntmps76
  go_wp2
  go_loopw [4, 5] (fun t i wr => ∃ j f k : Nat, i = .int .i64 j ∧ j ≤ n ∧ n - j ≤ f ∧ k ≤ j ∧ ∃ us, Hid (wr.ownsRow w.heap.size 39 1 t k (us.map encU)) ∧ Hid (Below w.heap.size w wr) ∧ Hid (decodeB bs = (decodeF f (bs.drop j)).map (us ++ ·))) (fun _ i _ => n - (intOf i).toNat)
  case atStart => exact ⟨0, n, 0, rfl, by omega, by omega, by omega, [], World.ownsRow_nil _ _ _ _, Below.refl _ _, by show _ = _; unfold decodeB; rw [hnl]; simp⟩
  case round =>
    obtain ⟨j, f, k, rfl, hj, hf, hkj, us, HO, HW, HD⟩ := hrel
    by_cases hlt : j < n
    · obtain ⟨b, off, rfl, hbl, hc⟩ := (HS.out.below HW.out).2 (by omega)
      have hjl : j < bs.length := by omega
      obtain ⟨f, rfl⟩ : ∃ f', f = f' + 1 := ⟨f - 1, by omega⟩
      have hne : bs.drop j ≠ [] := by rw [Ne, List.drop_eq_nil_iff]; omega
      have HST := Lib.hid (decodeF_step (f := f) (bs := bs.drop j) (by rw [List.length_drop]; omega) hne)
      have hrt := ref_take (bs.drop j) hne
      clear hne
      have hck : wr.cell? ⟨b, off + j, none⟩ = some (.int .u8 (bs[j].toNat : Int)) := hc j hjl
      have hRN : refN (bs.drop j) = refOf bs[j].toNat (n - j) (bs[j + 1]?.getD 0).toNat (bs[j + 2]?.getD 0).toNat := by
        unfold refN; simp [hnl, List.getElem?_eq_getElem hjl]
      obtain ⟨c, hcq⟩ : ∃ c, c = bs[j].toNat := ⟨_, rfl⟩
      have hc2 : c < 256 := by have := bs[j].toNat_lt; omega
      rw [← hcq] at hck hRN
      obtain ⟨v, hv⟩ : ∃ v, v = (refN (bs.drop j)).1 := ⟨_, rfl⟩
      obtain ⟨q, hq⟩ : ∃ q, q = (refN (bs.drop j)).2 := ⟨_, rfl⟩
      rw [← hv, ← hq] at hrt
      have HRT := Lib.hid hrt
      clear hrt
      have HV := Lib.hid hv
      have HQ := Lib.hid hq
      have HRN := Lib.hid hRN
      have hj1 : (0 : Int) ≤ (j : Int) := by omega
      have hways : (192 ≤ c ∧ c < 224 ∧ j + 1 < n) ∨ (224 ≤ c ∧ c < 240 ∧ j + 2 < n) ∨ c < 192 ∨ (192 ≤ c ∧ c < 224 ∧ n ≤ j + 1) ∨ (224 ≤ c ∧ c < 240 ∧ n ≤ j + 2) ∨ 240 ≤ c := by omega
      have HSL : ∀ m, j + m ≤ n → Sl encB w (some ⟨b, off + j, none⟩) m ((bs.drop j).take m) := fun m hm => by
        obtain ⟨b', off', he, hSl⟩ := HS.out.drop hlt
        simp only [Option.some.injEq, Addr.mk.injEq, and_true] at he
        rw [he.1, he.2]; exact hSl.take (by omega)
      have HSLL := Lib.hid HSL
      clear hv hq hRN hcq hbl HSL
      rcases hways with ⟨c3, c4, c5⟩ | ⟨c3, c4, c5⟩ | c3 | ⟨c3, c4, c5⟩ | ⟨c3, c4, c5⟩ | c3
      case' inl =>
        have hjl1 : j + 1 < bs.length := by omega
        have hck1 : wr.cell? ⟨b, off + (j + 1), none⟩ = some (.int .u8 (bs[j + 1].toNat : Int)) := hc (j + 1) hjl1
        have hr : refN (bs.drop j) = (((c : Int) - 192) * 64 + bs[j + 1].toNat - 128, 2) := by
          rw [HRN.out, List.getElem?_eq_getElem hjl1]; unfold refOf; rw [if_pos ⟨c3, c4, by omega⟩]; rfl
        obtain ⟨x, hxq⟩ : ∃ c, c = bs[j + 1].toNat := ⟨_, rfl⟩
        have hx2 : x < 256 := by have := bs[j + 1].toNat_lt; omega
        rw [← hxq] at hck1 hr
        have HR := Lib.hid hr
        have HSl := Lib.hid (HSLL.out 2 (by omega))
        have HQ2 := Lib.hid (show q = 2 by rw [HQ.out, hr])
        obtain ⟨S, hS⟩ : ∃ S, S = (bs.drop j).take 2 := ⟨_, rfl⟩
        rw [← hS] at HSl
        have HSq := Lib.hid (show S = (bs.drop j).take q by rw [HQ2.out, hS])
        clear hS
        have hve : ((c : Int) - 192) * 64 + x - 128 = v := by rw [HV.out, hr]
        have HVE := Lib.hid hve
        clear hc hxq hr hjl hjl1 hve
        go_wp2_with fail
        rw [HVE.out]
        have hjq : j + 2 ≤ n := by omega
        have g4 : (j : Int) + 2 ≤ (cap : Int) := by omega
        have g5 : (0 : Int) ≤ (j : Int) + 2 := by omega
        have g6 : (j : Int) ≤ (j : Int) + 2 := by omega
        clear hck1 hck HVE c3 c4 c5 hc2 hx2
        obtain ⟨wx, hwx⟩ : ∃ wx, wx = wr := ⟨_, rfl⟩
        rw [← hwx] at HO HW ⊢
        clear hwx
      case' inr.inl =>
        have hjl1 : j + 1 < bs.length := by omega
        have hjl2 : j + 2 < bs.length := by omega
        have hck1 : wr.cell? ⟨b, off + (j + 1), none⟩ = some (.int .u8 (bs[j + 1].toNat : Int)) := hc (j + 1) hjl1
        have hck2 : wr.cell? ⟨b, off + (j + 2), none⟩ = some (.int .u8 (bs[j + 2].toNat : Int)) := hc (j + 2) hjl2
        have hr : refN (bs.drop j) = (((c : Int) - 224) * 4096 + ((bs[j + 1].toNat : Int) - 128) * 64 + bs[j + 2].toNat - 128, 3) := by
          rw [HRN.out, List.getElem?_eq_getElem hjl1, List.getElem?_eq_getElem hjl2]; unfold refOf; rw [if_neg (by omega), if_pos ⟨c3, c4, by omega⟩]; rfl
        obtain ⟨x, hxq⟩ : ∃ c, c = bs[j + 1].toNat := ⟨_, rfl⟩
        have hx2 : x < 256 := by have := bs[j + 1].toNat_lt; omega
        obtain ⟨y, hyq⟩ : ∃ c, c = bs[j + 2].toNat := ⟨_, rfl⟩
        have hy2 : y < 256 := by have := bs[j + 2].toNat_lt; omega
        rw [← hxq] at hck1 hr
        rw [← hyq] at hck2 hr
        have HR := Lib.hid hr
        have HSl := Lib.hid (HSLL.out 3 (by omega))
        have HQ2 := Lib.hid (show q = 3 by rw [HQ.out, hr])
        obtain ⟨S, hS⟩ : ∃ S, S = (bs.drop j).take 3 := ⟨_, rfl⟩
        rw [← hS] at HSl
        have HSq := Lib.hid (show S = (bs.drop j).take q by rw [HQ2.out, hS])
        clear hS
        have hve : ((c : Int) - 224) * 4096 + ((x : Int) - 128) * 64 + y - 128 = v := by rw [HV.out, hr]
        have HVE := Lib.hid hve
        have g1 : (j : Int) + 1 < n := by omega
        have g2 : (j : Int) + 2 < n := by omega
        clear hc hxq hyq hr hjl hjl1 hjl2 hve
        go_wp2_with fail
        go_quiet (fail)
        go_wp2_with fail
        rw [HVE.out]
        have hjq : j + 3 ≤ n := by omega
        have g4 : (j : Int) + 3 ≤ (cap : Int) := by omega
        have g5 : (0 : Int) ≤ (j : Int) + 3 := by omega
        have g6 : (j : Int) ≤ (j : Int) + 3 := by omega
        clear hck1 hck2 hck HVE c3 c4 c5 hc2 hx2 hy2 g1 g2
        replace HO : Hid ((wr.drewN nq).ownsRow w.heap.size 39 1 u4 k (us.map encU)) := HO
        replace HW : Hid (Below w.heap.size w (wr.drewN nq)) := bdrewN HW.out nq
        obtain ⟨wx, hwx⟩ : ∃ wx, wx = wr.drewN nq := ⟨_, rfl⟩
        rw [← hwx] at HO HW ⊢
        clear hwx
      case' inr.inr.inl | inr.inr.inr.inl | inr.inr.inr.inr.inl | inr.inr.inr.inr.inr =>
        have hr : refN (bs.drop j) = ((c : Int), 1) := by
          rw [HRN.out]; unfold refOf; rw [if_neg (by omega), if_neg (by omega)]
        have HR := Lib.hid hr
        have HSl := Lib.hid (HSLL.out 1 (by omega))
        have HQ2 := Lib.hid (show q = 1 by rw [HQ.out, hr])
        obtain ⟨S, hS⟩ : ∃ S, S = (bs.drop j).take 1 := ⟨_, rfl⟩
        rw [← hS] at HSl
        have HSq := Lib.hid (show S = (bs.drop j).take q by rw [HQ2.out, hS])
        clear hS
        have hve : (c : Int) = v := by rw [HV.out, hr]
        have HVE := Lib.hid hve
        clear hc hr hjl hve
        go_wp2_with fail
        rw [HVE.out]
        have hjq : j + 1 ≤ n := by omega
        have g4 : (j : Int) + 1 ≤ (cap : Int) := by omega
        have g5 : (0 : Int) ≤ (j : Int) + 1 := by omega
        have g6 : (j : Int) ≤ (j : Int) + 1 := by omega
        obtain ⟨wx, hwx⟩ : ∃ wx, wx = wr := ⟨_, rfl⟩
        rw [← hwx] at HO HW ⊢
        clear hwx hck HVE hc2
      all_goals
        have hcj : ¬ cap = j := by omega
        have g1 : (j : Int) ≤ (n : Int) := by omega
        by_cases inr : 0 ≤ v ∧ v ≤ 65535
        · obtain ⟨i1, i2⟩ := inr
          obtain ⟨u, rfl⟩ := Int.eq_ofNat_of_zero_le i1
          have hcv0 : ∀ w', Below wx.heap.size wx w' → _ := fun w' h => run_conv (HSl.out.below (HW.out.trans (h.mono HW.out.size))) (cap - j)
          have u1 : u < 65536 := by omega
          have hd1 : decide ((65535 : Int) < (u : Int)) = false := by simp; omega
          have hd2 : decide ((u : Int) < 0) = false := by simp
          have hd4 : (u : Int) ≤ 65535 := by omega
          have hSw : Below wx.heap.size wx wx.drew := (Below.refl _ _).drew
          clear i1 i2
          refine wp_region_lex (Below wx.heap.size wx) [(0, true), (1, true), (2, true), (3, true), (4, true), (5, true), (6, true), (7, true), (8, true), (11, true), (12, true), (13, true), (14, true), (15, true), (16, true), (17, true), (9, false), (10, false), (18, true), (19, true)] (by kernel_rfl) (by kernel_rfl) (fun c a d v w h => by cases d <;> exact h) ?_
          iterate 16
            refine lex_step (fun K hK => ?_)
            simp only [lexOp, List.getElem?_toArray, List.getElem?_cons_succ, List.getElem?_cons_zero]
            rw [if_pos (by rfl)]
            apply Exists.intro
            refine ⟨fun w' hS' => ?_, hSw, ?_⟩
            · first | (go_simp <;> with_reducible rfl) | (go_simp; go_bits; with_reducible rfl)
            go_simp
            try go_bits
            refine hK _ _ ?_
            clear hK K
          refine lex_step (fun K hK => ?_)
          simp only [lexOp, List.getElem?_toArray, List.getElem?_cons_succ, List.getElem?_cons_zero]
          rw [if_pos (by rfl)]
          go_step
          refine (refunit_any _ u u1).mono ?_
          rintro e w5 ⟨v5, m5, rfl, hown5, hb5⟩
          obtain ⟨a5, cap5, rfl, hsl5, _⟩ := Sl.ofOwn hown5
          replace hSw : Below wx.heap.size wx w5 := hSw.trans hb5
          have hcv1 := run_conv hsl5 cap5
          have H5 := Lib.hid (HW.out.trans (hSw.mono HW.out.size))
          clear hown5 hsl5 hb5
          go_simp
          refine hK _ _ ?_
          clear hK K
          refine lex_step (fun K hK => ?_)
          simp only [lexOp, List.getElem?_toArray, List.getElem?_cons_succ, List.getElem?_cons_zero]
          rw [if_pos (by rfl)]
          go_step
          refine hK _ _ ?_
          clear hK K hcv1 hcv0
          cases hE : (unitB u == S)
          · have HN := Lib.hid (show decodeB bs = none by
              rw [HD.out, HST.out, if_pos (HRT.out.2 (fun h => by
                have h3 := h.2.2
                rw [Int.toNat_natCast, ← HSq.out] at h3
                simp [h3] at hE))]; rfl)
            iterate 2
              refine lex_step (fun K hK => ?_)
              simp only [lexOp, List.getElem?_toArray, List.getElem?_cons_succ, List.getElem?_cons_zero]
              rw [if_pos (by rfl)]
              apply Exists.intro
              refine ⟨fun w' hS' => ?_, hSw, ?_⟩
              · first | (go_simp <;> with_reducible rfl) | (go_simp; go_bits; with_reducible rfl)
              go_simp
              try go_bits
              refine hK _ _ ?_
              clear hK K
            refine lex_nil ?_
            go_wp2_with fail
            go_ret2
            rw [HN.out]
            exact ⟨rfl, H5.out⟩
          · have hE2 : unitB u = S := by simpa using hE
            have htk := HRT.out.1 ⟨by omega, by omega, by rw [Int.toNat_natCast, ← HSq.out]; exact hE2⟩
            have hq1 : q ≠ 0 := by rw [HQ2.out]; decide
            have HD2 := Lib.hid (show decodeB bs = (decodeF f (bs.drop (j + q))).map ((us ++ [UInt16.ofNat u]) ++ ·) by
              rw [HD.out, HST.out, htk, if_neg hq1, Int.toNat_natCast, List.drop_drop]
              cases decodeF f (bs.drop (j + q)) <;> simp)
            rw [HQ2.out] at HD2
            have HE := Lib.hid (show (Value.int .u16 (u : Int)) = encU (UInt16.ofNat u) by unfold encU; rw [UInt16.toNat_ofNat_of_lt' u1])
            have HO5 := Lib.hid (own_below HO.out hSw)
            clear hE2 htk hq1
            iterate 2
              refine lex_step (fun K hK => ?_)
              simp only [lexOp, List.getElem?_toArray, List.getElem?_cons_succ, List.getElem?_cons_zero]
              rw [if_pos (by rfl)]
              apply Exists.intro
              refine ⟨fun w' hS' => ?_, hSw, ?_⟩
              · first | (go_simp <;> with_reducible rfl) | (go_simp; go_bits; with_reducible rfl)
              go_simp
              try go_bits
              refine hK _ _ ?_
              clear hK K
            refine lex_nil ?_
            clear hE hSw
            go_wp2_with (at_builtin; refine wpList_app_lit oneU rfl _ _ rfl w.heap.size _ _ _ rfl HO5.out _ 1 _ rfl rfl rfl (by omega) (by unfold maxLen; omega) H5.out.size ?_; intro v1 w7 hown1 hg1 hb1; have HO7 := Lib.hid hown1; have HB7 := Lib.hid (H5.out.trans hb1); clear hown1 hg1 hb1)
            go_roundw
            case rel => exact ⟨_, f, k + 1, by go_num, by omega, by omega, by omega, us ++ [UInt16.ofNat u], by rw [List.map_append]; show World.ownsRow _ _ _ _ _ _ (_ ++ [_]); rw [← HE.out]; exact HO7.out, HB7, HD2⟩
            case measure => simp [intOf]; omega
        · have HN := Lib.hid (show decodeB bs = none by rw [HD.out, HST.out, if_pos (HRT.out.2 (fun h => inr ⟨h.1, h.2.1⟩))]; rfl)
          have hSw : Below wx.heap.size wx wx.drew := (Below.refl _ _).drew
          by_cases neg : v < 0
          · refine wp_region_lex (Below wx.heap.size wx) [(0, true), (1, true), (2, true), (3, true), (4, true), (5, true), (6, true), (7, true), (8, true), (11, true), (12, true), (13, true), (14, true), (15, true), (16, true), (17, true), (9, false), (10, false), (18, true), (19, true)] (by kernel_rfl) (by kernel_rfl) (fun c a d v w h => by cases d <;> exact h) ?_
            have hd := decide_eq_true neg
            iterate 3
              refine lex_step (fun K hK => ?_)
              simp only [lexOp, List.getElem?_toArray, List.getElem?_cons_succ, List.getElem?_cons_zero]
              rw [if_pos (by rfl)]
              apply Exists.intro
              refine ⟨fun w' hS' => ?_, hSw, ?_⟩
              · first | (go_simp <;> with_reducible rfl) | (go_simp; go_bits; with_reducible rfl)
              go_simp
              try go_bits
              refine hK _ _ ?_
              clear hK K
            iterate 2
              refine lex_step (fun K hK => ?_)
              simp only [lexOp, List.getElem?_toArray, List.getElem?_cons_succ, List.getElem?_cons_zero]
              rw [if_neg (Bool.eq_false_iff.1 (by rfl))]
              refine ⟨hSw, ?_⟩
              go_simp
              refine hK _ _ ?_
              clear hK K
            iterate 2
              refine lex_step (fun K hK => ?_)
              simp only [lexOp, List.getElem?_toArray, List.getElem?_cons_succ, List.getElem?_cons_zero]
              rw [if_pos (by rfl)]
              apply Exists.intro
              refine ⟨fun w' hS' => ?_, hSw, ?_⟩
              · first | (go_simp <;> with_reducible rfl) | (go_simp; go_bits; with_reducible rfl)
              go_simp
              try go_bits
              refine hK _ _ ?_
              clear hK K
            iterate 12
              refine lex_step (fun K hK => ?_)
              simp only [lexOp, List.getElem?_toArray, List.getElem?_cons_succ, List.getElem?_cons_zero]
              rw [if_neg (Bool.eq_false_iff.1 (by rfl))]
              refine ⟨hSw, ?_⟩
              go_simp
              refine hK _ _ ?_
              clear hK K
            iterate 1
              refine lex_step (fun K hK => ?_)
              simp only [lexOp, List.getElem?_toArray, List.getElem?_cons_succ, List.getElem?_cons_zero]
              rw [if_pos (by rfl)]
              apply Exists.intro
              refine ⟨fun w' hS' => ?_, hSw, ?_⟩
              · first | (go_simp <;> with_reducible rfl) | (go_simp; go_bits; with_reducible rfl)
              go_simp
              try go_bits
              refine hK _ _ ?_
              clear hK K
            refine lex_nil ?_
            go_wp2_with fail
            go_ret2
            rw [HN.out]
            exact ⟨rfl, HW.out.drew⟩
          · have pos : 65535 < v := by omega
            have hd := decide_eq_true pos
            have hd0 := decide_eq_false neg
            refine wp_region_lex (Below wx.heap.size wx) [(0, true), (1, true), (2, true), (3, true), (4, true), (5, true), (6, true), (7, true), (8, true), (11, true), (12, true), (13, true), (14, true), (15, true), (16, true), (17, true), (9, false), (10, false), (18, true), (19, true)] (by kernel_rfl) (by kernel_rfl) (fun c a d v w h => by cases d <;> exact h) ?_
            iterate 7
              refine lex_step (fun K hK => ?_)
              simp only [lexOp, List.getElem?_toArray, List.getElem?_cons_succ, List.getElem?_cons_zero]
              rw [if_pos (by rfl)]
              apply Exists.intro
              refine ⟨fun w' hS' => ?_, hSw, ?_⟩
              · first | (go_simp <;> with_reducible rfl) | (go_simp; go_bits; with_reducible rfl)
              go_simp
              try go_bits
              refine hK _ _ ?_
              clear hK K
            iterate 12
              refine lex_step (fun K hK => ?_)
              simp only [lexOp, List.getElem?_toArray, List.getElem?_cons_succ, List.getElem?_cons_zero]
              rw [if_neg (Bool.eq_false_iff.1 (by rfl))]
              refine ⟨hSw, ?_⟩
              go_simp
              refine hK _ _ ?_
              clear hK K
            iterate 1
              refine lex_step (fun K hK => ?_)
              simp only [lexOp, List.getElem?_toArray, List.getElem?_cons_succ, List.getElem?_cons_zero]
              rw [if_pos (by rfl)]
              apply Exists.intro
              refine ⟨fun w' hS' => ?_, hSw, ?_⟩
              · first | (go_simp <;> with_reducible rfl) | (go_simp; go_bits; with_reducible rfl)
              go_simp
              try go_bits
              refine hK _ _ ?_
              clear hK K
            refine lex_nil ?_
            go_wp2_with fail
            go_ret2
            rw [HN.out]
            exact ⟨rfl, HW.out.drew⟩
    · have hN : decodeB bs = some us := by
        rw [HD.out, List.drop_of_length_le (by omega)]
        cases f <;> simp [decodeF]
      have HN := Lib.hid hN
      clear hN
      go_wp2
      go_ret2
      rw [HN.out]
      exact ⟨_, k, rfl, HO.out, HW.out⟩
end Go.Proofs.Ytnfhiakdbakpgaa
