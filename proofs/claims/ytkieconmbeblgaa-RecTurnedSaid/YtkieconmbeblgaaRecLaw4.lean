/- rec: the walk of RecTurned. No condition. -/
import Derived.Test.YtkieconmbeblgaaRecLaw3
import Derived.Deep.LoopGhost
import Derived.Deep.DeepCutAuto
namespace Go.Proofs.Ytkieconmbeblgaa
open Go.ChangeShapes Go.WideShapes Go.ChangeAt Go.RowKit
set_option maxRecDepth 100000 in
set_option maxHeartbeats 8000000 in
theorem walk0_RecTurned (k t : Int) (kb : List UInt8) (a : Option Addr) (n cap : Nat) (z : List Int) (c at_ by_ : Int) (body : Bool) (w : World)
    (hk : (Lit.int .i64 k).wf = true) (ht : (Lit.int .u32 t).wf = true) (hc : (Lit.int .i64 c).wf = true) (h0 : IsRow .u8 w a n cap z) (hat : (Lit.int .u16 at_).wf = true) (hby : (Lit.int .u32 by_).wf = true) :
    Calls Try.prog 4 #[recL k t kb a n cap c, .int .u16 at_, .int .u32 by_, .bool body] w fun e w' => e = .returned (.bool true) ∧ Below w.heap.size w w' := by
  have HK : Hid (IntR k) := bounds_i64 hk
  have HC : Hid (IntR c) := bounds_i64 hc
  have ht0 := bounds_u32 ht
  obtain ⟨at0, at1⟩ := bounds_u16 hat
  obtain ⟨p, rfl⟩ := Int.eq_ofNat_of_zero_le at0
  obtain ⟨by0, by1⟩ := bounds_u32 hby
  obtain ⟨bs, hs, hn, hcap⟩ := Bs.ofRow' h0
  have S := Lib.hid hs
  have hbl := hs.1
  unfold maxLen at hn
  have HL := Lib.hid hbl
  clear hk hc ht h0 hs hbl hat hby
  have H := Lib.hid ((Below.refl w.heap.size w).alloc (Nat.le_refl _) (.cells #[.int .i64 k, .int .u32 t, .string ⟨kb.toArray⟩, .slice a n cap, .int .i64 c] 26))
  have K := Lib.hid (show Blk5 (w.alloc (.cells #[.int .i64 k, .int .u32 t, .string ⟨kb.toArray⟩, .slice a n cap, .int .i64 c] 26)) w.heap.size (.int .i64 k) (.int .u32 t) (.string ⟨kb.toArray⟩) (.slice a n cap) (.int .i64 c) 26 from heap_alloc_last w _)
  replace S := Lib.hid (S.out.below H.out)
  go_enter Try.func4, Try.ntmps4
  go_wp2_with fail
  refine (fixed05_any _).mono ?_
  rintro e w1 ⟨rfl, hb⟩
  replace K := Lib.hid (K.out.below hb)
  replace S := Lib.hid (S.out.below hb)
  replace H := Lib.hid (H.out.trans (hb.mono H.out.size))
  clear hb
  obtain ⟨p0, p1, p2, p3, p4, f0, f1, f2, f3, f4, lt1⟩ := K.out.box
  go_wp2_with fail
  have h3 := refRight5_all w1 k t kb a n cap c HK.out ht0.1 HC.out
  cases hr : recOk k t kb.length n c with
  | false =>
    rw [hr] at h3
    refine h3.mono ?_
    clear h3 hr
    rintro e w3 ⟨rfl, hb⟩
    have hbK : Below w1.heap.size w1 w3 := by first | exact hb | exact (Below.refl _ _).drew.trans (hb.mono (by simp)) | exact ((Below.refl _ _).alloc (Nat.le_refl _) _).trans (hb.mono (by simp)) | exact (((Below.refl _ _).alloc (Nat.le_refl _) _).alloc (by simp) _).trans (hb.mono (by simp; omega)) | exact ((((Below.refl _ _).alloc (Nat.le_refl _) _).alloc (by simp) _).alloc (by simp; omega) _).trans (hb.mono (by simp; omega))
    replace H := Lib.hid (H.out.trans (hbK.mono H.out.size))
    clear hbK
    clear hb p0 p1 p2 p3 p4 f0 f1 f2 f3 f4 lt1
    go_wp2_with fail
    go_ret
    exact ⟨rfl, H.out⟩
  | true =>
    rw [hr] at h3
    refine h3.mono ?_
    clear h3
    rintro e w2 ⟨rfl, hb⟩
    have hbK : Below w1.heap.size w1 w2 := by first | exact hb | exact (Below.refl _ _).drew.trans (hb.mono (by simp)) | exact ((Below.refl _ _).alloc (Nat.le_refl _) _).trans (hb.mono (by simp)) | exact (((Below.refl _ _).alloc (Nat.le_refl _) _).alloc (by simp) _).trans (hb.mono (by simp; omega)) | exact ((((Below.refl _ _).alloc (Nat.le_refl _) _).alloc (by simp) _).alloc (by simp; omega) _).trans (hb.mono (by simp; omega))
    replace K := Lib.hid (K.out.below hbK)
    replace S := Lib.hid (S.out.below hbK)
    replace H := Lib.hid (H.out.trans (hbK.mono H.out.size))
    clear hbK
    clear hb p0 p1 p2 p3 p4 f0 f1 f2 f3 f4 lt1
    obtain ⟨p0, p1, p2, p3, p4, f0, f1, f2, f3, f4, lt1⟩ := K.out.box
    obtain ⟨u, t, c, rfl, rfl, rfl, ht1, hk64, hb4⟩ := recOk_nums hr (by omega)
    have HR := Lib.hid hr
    clear hr
    by_cases hb0 : by_ = 0
    · have z1 : (by_ == 0) = true := eqi_yes hb0
      clear hb0
      go_wp2_with fail
      go_ret
      exact ⟨rfl, H.out⟩
    have z1 : (by_ == 0) = false := eqi_no hb0
    have HP := Lib.hid (recB_length u t kb bs c)
    go_wp2_with fail
    refine (refBytes5_own _ u t kb a n cap bs c S.out HR.out ht1).mono ?_
    rintro e w3 ⟨v3, n3, rfl, hown3, hb⟩
    have hn3 : n3 = 15 + kb.length + n := by have h := hown3.1; rw [List.length_map, HP.out, HL.out] at h; omega
    obtain ⟨m, hm⟩ : ∃ m, kb.length + n = m := ⟨_, rfl⟩
    obtain rfl : n3 = m + 15 := by omega
    have HM := Lib.hid hm
    have HO := Lib.hid hown3
    have szw := H.out.size
    replace H := Lib.hid (H.out.trans (hb.mono H.out.size))
    have hbase := hb.size
    clear hb hown3 hn3 hm S K p0 p1 p2 p3 p4 f0 f1 f2 f3 f4 lt1 hb0
    have hm0 : m ≤ 4160 := by have := HM.out; omega
    cases body with
    | false =>
      obtain ⟨q, hq, hq0⟩ : ∃ q : Nat, (p : Int) % 72 = q ∧ q < 72 := ⟨p % 72, by omega, by omega⟩
      go_wp2_with (at_builtin; (refine wpList_app_lit oneB rfl _ _ rfl w2.heap.size _ _ _ rfl HO.out _ 1 _ rfl rfl rfl (by omega) (by unfold maxLen; omega) hbase ?_; intro v5 w5 hown5 hg5 hb5; have hown5' : w5.ownsRow w2.heap.size 5 1 v5 (m + 16) ((recB u t kb bs c ++ [0]).map encB) := (by rw [List.map_append]; exact hown5); obtain ⟨a5, c5, hv5, _, hc5⟩ := Sl.ofOwn hown5'; subst hv5; have HO5 := Lib.hid hown5'; have H5 := Lib.hid (H.out.trans (hb5.mono szw)); clear HO hown5 hown5' hg5 hb5))
      have hRl : ((recB u t kb bs c ++ [0]).drop 9).length = m + 7 := by have := HP.out; have := HM.out; have := HL.out; simp; omega
      have hBd : recB u t kb bs c ++ [0] = recHd u t kb.length bs.length c ++ (recB u t kb bs c ++ [0]).drop 9 := by
        have h := List.take_append_drop 9 (recB u t kb bs c ++ [0])
        rw [rec_hd] at h; exact h.symm
      have HBD := Lib.hid hBd
      obtain ⟨R, hR⟩ : ∃ R, (recB u t kb bs c ++ [0]).drop 9 = R := ⟨_, rfl⟩
      obtain ⟨hd0, hh0⟩ : ∃ h, recHd u t kb.length bs.length c = h := ⟨_, rfl⟩
      have hl0 : hd0.length = 9 := by rw [← hh0]; exact recHd_length ..
      rw [hh0, hR] at hBd
      rw [hR] at hRl
      have HHR := Lib.hid (And.intro hR hh0)
      have HRL := Lib.hid hRl
      rw [hBd] at HO5
      replace hl0 := Lib.hid hl0
      clear hBd hR hh0 hRl
      go_loopg [13, 38] 16 (fun g s13 s38 wr => ∃ k : Nat, k ≤ 16 ∧ g = 16 - k ∧ s38 = .int .i64 k ∧ ∃ (hd : List UInt8) (W : BitVec 16), s13 = .bool (nz W) ∧ Hid (wr.ownsRow w2.heap.size 5 1 (.slice a5 (m + 16) c5) (m + 16) ((hd ++ R).map encB)) ∧ Hid (hd.length = 9) ∧ Hid (Below w.heap.size w wr) ∧
        Hid (crc16 0xFFFF#16 hd = crc16 0xFFFF#16 hd0 ^^^ iter T16 (8 * 9 - q) W) ∧ Hid (∀ j, j < 16 - k → W.getLsbD j = false) ∧ Hid (nz W = false → hd = hd0))
      case atStart => exact ⟨0, by omega, by omega, by go_num, hd0, 0#16, rfl, HO5, hl0, H5, by show _ = _; rw [iter16_0]; simp, (fun j _ => by simp), (fun _ => rfl)⟩
      case round =>
        obtain ⟨k, hk, rfl, rfl, hd, W, rfl, HO, HL9, HW, HC, HV, HN⟩ := hrel
        by_cases hlt : k < 16
        · have hbp : 0 ≤ by_ / 2 ^ k := Int.ediv_nonneg by0 (Int.pow_nonneg (by decide))
          by_cases hbit : (by_ / 2 ^ k) % 2 = 0
          · have hbB : ((by_ / 2 ^ k) % 2 == 0) = true := by simp [hbit]
            clear hbit
            go_wp2_with fail
            go_roundg (16 - (k + 1))
            case measure => omega
            case rel => exact ⟨k + 1, by omega, rfl, by go_num, hd, W, rfl, HO, HL9, HW, HC, (fun j hj => HV.out j (by omega)), HN⟩
          · have hbB : ((by_ / 2 ^ k) % 2 == 0) = false := by simp [hbit]
            clear hbit
            by_cases hin : q + k < 72
            · obtain ⟨g, rfl, hg0, hg1⟩ := own_addr HO.out (by omega)
              have hq9 : (q + k) / 8 < hd.length := by have := HL9.out; omega
              have hq9' : (q + k) / 8 < (hd ++ R).length := by rw [List.length_append]; omega
              have hcell := own_cellB HO.out ((q + k) / 8) hq9'
              rw [List.getElem_append_left hq9] at hcell
              have hfr := HO.out.frozenAt ((q + k) / 8)
              obtain ⟨y, V, e1, e2, e3, e4⟩ := turn16_step 0xFFFF#16 hd0 hd 9 q k W HL9.out hlt (by omega) hq9 HC.out HV.out
              obtain ⟨x, hx⟩ : ∃ x, x = hd[(q + k) / 8] := ⟨_, rfl⟩
              rw [← hx] at hcell e1
              have HL9' := Lib.hid (show (hd.set ((q + k) / 8) y).length = 9 by rw [List.length_set]; exact HL9.out)
              have HO6 := Lib.hid (HO.out.stored ((q + k) / 8) (encB y)).1
              have E1 := Lib.hid e1
              have E2 := Lib.hid e2
              have E3 := Lib.hid e3
              have E4 := Lib.hid e4
              have hsp := Lib.hid (show ((hd ++ R).map encB).set ((q + k) / 8) (encB y) = (hd.set ((q + k) / 8) y ++ R).map encB by rw [← List.map_set, List.set_append_left _ _ hq9])
              have hu := u8_lt x
              have hqk : (q + k) / 8 < m + 16 := by omega
              clear e1 e2 e3 e4 hx hq9 hq9'
              go_wp2_with fail
              go_roundg (16 - (k + 1))
              case measure => omega
              case rel =>
                rw [E1.out]
                refine ⟨k + 1, by omega, rfl, by go_num, hd.set ((q + k) / 8) y, V, by rw [E4.out], ?_, HL9', HW.out.setCell (Nat.le_trans szw hg0) _, E2, E3, (fun h => by rw [E4.out] at h; cases h)⟩
                show World.ownsRow _ _ _ _ _ _ _
                rw [← hsp.out]
                exact HO6.out
            · have hin' : decide ((72 : Int) ≤ (q : Int) + (k : Int)) = true := decide_eq_true (by omega)
              go_wp2_with fail
              go_roundg (16 - (k + 1))
              case measure => omega
              case rel => exact ⟨k + 1, by omega, rfl, by go_num, hd, W, rfl, HO, HL9, HW, HC, (fun j hj => HV.out j (by omega)), HN⟩
        · obtain rfl : k = 16 := by omega
          have hEnd := turn_end T16_zero iter16_0 HC.out
          have S9 := Lib.hid (Sl.ofOwnS HO.out).1
          have HN' := HN.out
          generalize nz W = T at hEnd HN'
          clear HC HV HN
          cases T with
          | false =>
            obtain rfl := HN' rfl
            have hP := Parse_rec wr a5 (m + 16) c5 u t kb bs c 0 [] (by rw [← HHR.out.1, ← HHR.out.2] at S9; rw [HBD.out]; exact S9.out) (by omega) hc5 (by rw [HL.out]; exact HR.out) ht1
            have HPP := Lib.hid hP
            clear hP hEnd HN'
            go_wp2_with fail
            refine HPP.out.mono ?_
            rintro e w6 ⟨a6, m6, c6, rfl, _, hb⟩
            have H6 := Lib.hid (HW.out.trans (hb.mono HW.out.size))
            clear hb
            go_wp2_with fail
            go_ret
            exact ⟨rfl, H6.out.alloc H6.out.size _⟩
          | true =>
            have hne : crcN hd ≠ crcN (recHd u t kb.length bs.length c) := by
              intro h
              rw [HHR.out.2] at h
              have := hEnd.1 (BitVec.eq_of_toNat_eq h)
              cases this
            have hP := Parse_hd wr a5 (m + 16) c5 u t kb bs c hd R S9.out (by omega) hc5 HL9.out HHR.out.1.symm hne
            have HPP := Lib.hid hP
            clear hP hEnd HN' hne
            go_wp2_with fail
            refine HPP.out.mono ?_
            rintro e w6 ⟨er, her, rfl, hb⟩
            have z2 : (er == 0) = false := eqi_no her
            have z3 : (er != 0) = true := by simp [her]
            have H6 := Lib.hid (HW.out.trans (hb.mono HW.out.size))
            clear hb her
            go_wp2_with fail
            go_ret
            exact ⟨rfl, H6.out.alloc H6.out.size _⟩
    | true =>
      obtain ⟨tt, htt, htt0⟩ : ∃ tt : Int, (m : Int) + 16 - 5 = tt ∧ tt = m + 11 := ⟨_, rfl, by omega⟩
      have hs1 : tt - 11 = (m : Int) := by omega
      have ht2 : 11 ≤ tt := by omega
      have ht3 : tt ≤ 5000 := by omega
      have HTT := Lib.hid htt0
      clear htt0
      go_wp2_with (at_builtin; (refine wpList_app_lit oneB rfl _ _ rfl w2.heap.size _ _ _ rfl HO.out _ 1 _ rfl rfl rfl (by omega) (by unfold maxLen; omega) hbase ?_; intro v5 w5 hown5 hg5 hb5; have hown5' : w5.ownsRow w2.heap.size 5 1 v5 (m + 16) ((recB u t kb bs c ++ [0]).map encB) := (by rw [List.map_append]; exact hown5); obtain ⟨a5, c5, hv5, _, hc5⟩ := Sl.ofOwn hown5'; subst hv5; have HO5 := Lib.hid hown5'; have H5 := Lib.hid (H.out.trans (hb5.mono szw)); clear HO hown5 hown5' hg5 hb5))
      clear htt
      have hBl : (recB u t kb bs c ++ [0]).length = m + 16 := by have := HP.out; have := HM.out; have := HL.out; simp; omega
      have hRl : ((recB u t kb bs c ++ [0]).drop (11 + kb.length + bs.length)).length = 5 := by rw [List.length_drop, hBl]; have := HM.out; have := HL.out; omega
      have hBd : recB u t kb bs c ++ [0] = recBody u t kb bs c ++ (recB u t kb bs c ++ [0]).drop (11 + kb.length + bs.length) := by
        have h := List.take_append_drop (11 + kb.length + bs.length) (recB u t kb bs c ++ [0])
        rw [rec_body] at h; exact h.symm
      have hb11 : (recBody u t kb bs c).take 11 = (recB u t kb bs c ++ [0]).take 11 := by
        rw [← rec_body u t kb bs c [0], List.take_take, Nat.min_eq_left (by omega)]
      have hbL : (recBody u t kb bs c).length = m + 11 := by
        have h := congrArg List.length hBd
        rw [hBl, List.length_append, hRl] at h; omega
      have HBD := Lib.hid hBd
      obtain ⟨R, hR⟩ : ∃ R, (recB u t kb bs c ++ [0]).drop (11 + kb.length + bs.length) = R := ⟨_, rfl⟩
      obtain ⟨ms0, hh0⟩ : ∃ h, recBody u t kb bs c = h := ⟨_, rfl⟩
      obtain ⟨B11, hB11⟩ : ∃ h, (recB u t kb bs c ++ [0]).take 11 = h := ⟨_, rfl⟩
      rw [hh0, hR] at hBd
      rw [hh0, hB11] at hb11
      rw [hh0] at hbL
      rw [hR] at hRl
      have HHR := Lib.hid (And.intro hR (And.intro hh0 hB11))
      have HRL := Lib.hid hRl
      rw [hBd] at HO5
      replace hbL := Lib.hid hbL
      replace hb11 := Lib.hid hb11
      clear hBd hR hh0 hRl hBl hB11
      obtain ⟨q, hq⟩ : ∃ q : Nat, 0 < m → (p : Int) % (8 * (m : Int)) = q ∧ q < 8 * m := ⟨p % (8 * m), fun h => ⟨by rw [show (8 * (m : Int)) = ((8 * m : Nat) : Int) by simp]; exact (Int.natCast_emod p (8 * m)).symm, Nat.mod_lt _ (by omega)⟩⟩
      have HQ := Lib.hid hq
      clear hq
      go_loopg [13, 38] 32 (fun g s13 s38 wr => ∃ k : Nat, k ≤ 32 ∧ g = 32 - k ∧ s38 = .int .i64 k ∧ ∃ (ms : List UInt8) (W : BitVec 32), s13 = .bool (nz W) ∧ Hid (wr.ownsRow w2.heap.size 5 1 (.slice a5 (m + 16) c5) (m + 16) ((ms ++ R).map encB)) ∧ Hid (ms.length = m + 11) ∧ Hid (ms.take 11 = B11) ∧ Hid (Below w.heap.size w wr) ∧
        Hid (crc32 0xFFFFFFFF#32 ms = crc32 0xFFFFFFFF#32 ms0 ^^^ iter D32 (8 * (m + 11) - (88 + q)) W) ∧ Hid (∀ j, k ≤ j → W.getLsbD j = false) ∧ Hid (nz W = false → ms = ms0))
      case atStart => exact ⟨0, by omega, by omega, by go_num, ms0, 0#32, rfl, HO5, hbL, hb11, H5, by show _ = _; rw [iter32_0]; simp, (fun j _ => by simp), (fun _ => rfl)⟩
      case round =>
        obtain ⟨k, hk, rfl, rfl, ms, W, rfl, HO, HLm, H11, HW, HC, HV, HN⟩ := hrel
        by_cases hlt : k < 32
        · have hbp : 0 ≤ by_ / 2 ^ k := Int.ediv_nonneg by0 (Int.pow_nonneg (by decide))
          by_cases hm1 : 0 < m
          · obtain ⟨hq, hq0⟩ := HQ.out hm1
            have z4 : decide ((11 : Int) < tt) = true := decide_eq_true (by have := HTT.out; omega)
            have z6 : ¬ m = 0 := by omega
            by_cases hbit : (by_ / 2 ^ k) % 2 = 0
            · have hbB : ((by_ / 2 ^ k) % 2 == 0) = true := by simp [hbit]
              clear hbit
              go_wp2_with fail
              go_roundg (32 - (k + 1))
              case measure => omega
              case rel => exact ⟨k + 1, by omega, rfl, by go_num, ms, W, rfl, HO, HLm, H11, HW, HC, (fun j hj => HV.out j (by omega)), HN⟩
            · have hbB : ((by_ / 2 ^ k) % 2 == 0) = false := by simp [hbit]
              clear hbit
              by_cases hin : q + k < 8 * m
              · have hin' : decide (8 * (m : Int) ≤ (q : Int) + (k : Int)) = false := decide_eq_false (by omega)
                obtain ⟨g, rfl, hg0, hg1⟩ := own_addr HO.out (by omega)
                have hml := HLm.out
                have hqm : 11 + (q + k) / 8 < ms.length := by omega
                have hqm' : 11 + (q + k) / 8 < (ms ++ R).length := by rw [List.length_append]; omega
                have hcell := own_cellB HO.out (11 + (q + k) / 8) hqm'
                rw [List.getElem_append_left hqm] at hcell
                have hfr := HO.out.frozenAt (11 + (q + k) / 8)
                have hix : (88 + q + k) / 8 = 11 + (q + k) / 8 := by omega
                have hix2 : (88 + q + k) % 8 = (q + k) % 8 := by omega
                have hst := turn32_step 0xFFFFFFFF#32 ms0 ms (m + 11) (88 + q) k W hml hlt (by omega) (by omega) HC.out HV.out
                simp only [hix, hix2] at hst
                obtain ⟨y, V, e1, e2, e3, e4⟩ := hst
                obtain ⟨x, hx⟩ : ∃ x, x = ms[11 + (q + k) / 8] := ⟨_, rfl⟩
                rw [← hx] at hcell e1
                have HLm' := Lib.hid (show (ms.set (11 + (q + k) / 8) y).length = m + 11 by rw [List.length_set]; exact hml)
                have H11' := Lib.hid (show (ms.set (11 + (q + k) / 8) y).take 11 = B11 by rw [List.take_set_of_le (by omega)]; exact H11.out)
                have HO6 := Lib.hid (HO.out.stored (11 + (q + k) / 8) (encB y)).1
                have E1 := Lib.hid e1
                have E2 := Lib.hid e2
                have E3 := Lib.hid e3
                have E4 := Lib.hid e4
                have hsp := Lib.hid (show ((ms ++ R).map encB).set (11 + (q + k) / 8) (encB y) = (ms.set (11 + (q + k) / 8) y ++ R).map encB by rw [← List.map_set, List.set_append_left _ _ hqm])
                have hu := u8_lt x
                have hqk : 11 + (q + k) / 8 < m + 16 := by omega
                clear e1 e2 e3 e4 hx hqm hqm' hml hix hix2
                go_wp2_with fail
                go_roundg (32 - (k + 1))
                case measure => omega
                case rel =>
                  rw [E1.out]
                  refine ⟨k + 1, by omega, rfl, by go_num, ms.set (11 + (q + k) / 8) y, V, by rw [E4.out], ?_, HLm', H11', HW.out.setCell (Nat.le_trans szw hg0) _, E2, E3, (fun h => by rw [E4.out] at h; cases h)⟩
                  show World.ownsRow _ _ _ _ _ _ _
                  rw [← hsp.out]
                  exact HO6.out
              · have hin' : decide (8 * (m : Int) ≤ (q : Int) + (k : Int)) = true := decide_eq_true (by omega)
                go_wp2_with fail
                go_roundg (32 - (k + 1))
                case measure => omega
                case rel => exact ⟨k + 1, by omega, rfl, by go_num, ms, W, rfl, HO, HLm, H11, HW, HC, (fun j hj => HV.out j (by omega)), HN⟩
          · obtain rfl : m = 0 := by omega
            have z4 : decide ((11 : Int) < tt) = false := decide_eq_false (by have := HTT.out; omega)
            have z5 : decide (8 * ((0 : Nat) : Int) ≤ (k : Int)) = true := decide_eq_true (by omega)
            by_cases hbit : (by_ / 2 ^ k) % 2 = 0
            · have hbB : ((by_ / 2 ^ k) % 2 == 0) = true := by simp [hbit]
              clear hbit
              go_wp2_with fail
              go_roundg (32 - (k + 1))
              case measure => omega
              case rel => exact ⟨k + 1, by omega, rfl, by go_num, ms, W, rfl, HO, HLm, H11, HW, HC, (fun j hj => HV.out j (by omega)), HN⟩
            · have hbB : ((by_ / 2 ^ k) % 2 == 0) = false := by simp [hbit]
              clear hbit
              go_wp2_with fail
              go_roundg (32 - (k + 1))
              case measure => omega
              case rel => exact ⟨k + 1, by omega, rfl, by go_num, ms, W, rfl, HO, HLm, H11, HW, HC, (fun j hj => HV.out j (by omega)), HN⟩
        · obtain rfl : k = 32 := by omega
          have hEnd := turn_end D32_zero iter32_0 HC.out
          have S9 := Lib.hid (Sl.ofOwnS HO.out).1
          have HN' := HN.out
          generalize nz W = T at hEnd HN'
          clear HC HV HN
          cases T with
          | false =>
            obtain rfl := HN' rfl
            have hP := Parse_rec wr a5 (m + 16) c5 u t kb bs c 0 [] (by rw [← HHR.out.1, ← HHR.out.2.1] at S9; rw [HBD.out]; exact S9.out) (by omega) hc5 (by rw [HL.out]; exact HR.out) ht1
            have HPP := Lib.hid hP
            clear hP hEnd HN'
            go_wp2_with fail
            refine HPP.out.mono ?_
            rintro e w6 ⟨a6, m6, c6, rfl, _, hb⟩
            have H6 := Lib.hid (HW.out.trans (hb.mono HW.out.size))
            clear hb
            go_wp2_with fail
            go_ret
            exact ⟨rfl, H6.out.alloc H6.out.size _⟩
          | true =>
            have hne : sumN ms ≠ sumN (recBody u t kb bs c) := by
              intro h
              have hS : ∀ xs : List UInt8, xs.foldl downByte 4294967295 = E (crc32 0xFFFFFFFF#32 xs) := fun xs => by rw [E_of (n := 32) (x := 4294967295) (by decide) (by decide), down_crc]; rfl
              have h1 := up_sumN ms
              have h2 := up_sumN (recBody u t kb bs c)
              rw [h, ← h2, hS, hS, not32_inj, HHR.out.2.1] at h1
              have := hEnd.1 h1
              cases this
            have hP := Parse_body wr a5 (m + 16) c5 u t kb bs c ms R S9.out (by omega) hc5 (by have := HLm.out; have := HM.out; have := HL.out; omega) (by rw [H11.out, HHR.out.2.2]) HHR.out.1.symm (by rw [HL.out]; exact HR.out) ht1 hne
            have HPP := Lib.hid hP
            clear hP hEnd HN' hne
            go_wp2_with fail
            refine HPP.out.mono ?_
            rintro e w6 ⟨rfl, hb⟩
            have H6 := Lib.hid (HW.out.trans (hb.mono HW.out.size))
            clear hb
            go_wp2_with fail
            go_ret
            exact ⟨rfl, H6.out.alloc H6.out.size _⟩
theorem walk_RecTurned (k t : Int) (ks : ByteArray) (a : Option Addr) (n cap : Nat) (z : List Int) (c at_ by_ : Int) (body : Bool) (w : World)
    (hk : (Lit.int .i64 k).wf = true) (ht : (Lit.int .u32 t).wf = true) (h0 : IsRow .u8 w a n cap z) (hc : (Lit.int .i64 c).wf = true) (hat : (Lit.int .u16 at_).wf = true) (hby : (Lit.int .u32 by_).wf = true) :
    Calls Try.prog 4 #[.agg #[.int .i64 k, .int .u32 t, .string ks, .slice a n cap, .int .i64 c], .int .u16 at_, .int .u32 by_, .bool body] w fun e w' => e = .returned (.bool true) ∧ Below w.heap.size w w' := by
  obtain ⟨kb, rfl, hkb⟩ := bytes_list ks
  exact walk0_RecTurned k t kb a n cap z c at_ by_ body w hk ht hc h0 hat hby
end Go.Proofs.Ytkieconmbeblgaa
