/- page: the reference's Parse. No condition. -/
import Derived.Test.YtdnnodpchjnleaaPageFn2
namespace Go.Proofs.Ytdnnodpchjnleaa
open Go.ChangeShapes Go.WideShapes Go.ChangeAt Go.RowKit
theorem take2 {bs : List UInt8} (h : 2 ≤ bs.length) : bs.take 2 = [bs[0]'(by omega), bs[1]'(by omega)] := by
  rcases bs with _ | ⟨x, _ | ⟨y, t⟩⟩
  · simp at h
  · simp at h
  · rfl

set_option maxRecDepth 100000 in
set_option maxHeartbeats 1000000 in
theorem refParse_any (w : World) (a : Option Addr) (n cap : Nat) (bs : List UInt8) (hs : Sl encB w a n bs) (hn : n ≤ 65536) (hcap : n ≤ cap) :
    Calls Try.prog 8 #[.slice a n cap] w (HeadRet (headR bs) w) := by
  have hbl := hs.1
  have HS := Lib.hid hs
  clear hs
  by_cases c1 : n < 12
  · have hR : headR bs = ⟨0, false, false, 6⟩ := by unfold headR; rw [if_pos (by omega)]
    rw [hR]
    go_enter Try.func8, Try.ntmps8
    go_wp2
    have h1 := HeadW.first w
    exact bodyPost_ret (results_cell_row_tmp rfl _ _ w.heap.size _ _ _ _ rfl h1.1 Try.underlying26 rfl infoHead) rfl ⟨rfl, h1.2⟩
  obtain ⟨b, off, rfl, hbw, hc⟩ := HS.out.2 (by omega)
  have hbn : b ≠ w.heap.size := by omega
  have k0 := hc 0 (by omega)
  have k1 := hc 1 (by omega)
  rw [Nat.add_zero] at k0
  have ht := take2 (bs := bs) (by omega)
  obtain ⟨x0, hx0⟩ : ∃ u : Nat, u = (bs[0]'(by omega)).toNat := ⟨_, rfl⟩
  obtain ⟨x1, hx1⟩ : ∃ u : Nat, u = (bs[1]'(by omega)).toNat := ⟨_, rfl⟩
  unfold encB at k0 k1
  rw [← hx0] at k0
  rw [← hx1] at k1
  have g0 : (0 : Int) < (n : Int) := by omega
  have g1 : (1 : Int) < (n : Int) := by omega
  by_cases c2 : bs.take 2 = [67, 66]
  · have hgr := getR_2 (bs := bs) (by omega)
    have hb4 := get4_lt bs
    rw [ht] at c2
    simp only [List.cons.injEq, and_true] at c2
    obtain ⟨d0, d1⟩ := c2
    rw [d0] at hx0
    rw [d1] at hx1
    obtain rfl : x0 = 67 := hx0
    obtain rfl : x1 = 66 := hx1
    have c2 : bs.take 2 = [67, 66] := by rw [ht, d0, d1]
    have k8 := hc 8 (by omega)
    have k9 := hc 9 (by omega)
    have h8 : bs.getD 8 0 = bs[8]'(by omega) := by simp [List.getD, List.getElem?_eq_getElem (by omega : 8 < bs.length)]
    have h9 : bs.getD 9 0 = bs[9]'(by omega) := by simp [List.getD, List.getElem?_eq_getElem (by omega : 9 < bs.length)]
    obtain ⟨u, hu⟩ : ∃ u : Nat, u = (bs[8]'(by omega)).toNat := ⟨_, rfl⟩
    obtain ⟨v, hv⟩ : ∃ u : Nat, u = (bs[9]'(by omega)).toNat := ⟨_, rfl⟩
    have hl : (bs.getD 8 0 == 0) = ((u : Int) == 0) := by
      rw [h8, hu, Bool.eq_iff_iff]; simp [← UInt8.toNat_inj]
    have hv2 : (bs.getD 9 0 != 255) = ((v : Int) != 255) := by
      rw [h9, hv, Bool.eq_iff_iff]; simp [← UInt8.toNat_inj]; omega
    have HC : Hid (TwoS b off u v w) := ⟨by rw [k8]; unfold encB; rw [hu], by rw [k9]; unfold encB; rw [hv]⟩
    have g8 : (8 : Int) < (n : Int) := by omega
    have g9 : (9 : Int) < (n : Int) := by omega
    have g5 : (8 : Int) ≤ (cap : Int) := by omega
    have HR0 := Lib.hid (show headR bs = if bs.take 8 ≠ headB (getN ((bs.drop 2).take 4)) then ⟨0, false, false, 7⟩ else ⟨getN ((bs.drop 2).take 4), (u : Int) == 0, (v : Int) != 255, 0⟩ by unfold headR; rw [if_neg (by omega), if_neg (by simp [c2]), ← hl, ← hv2])
    obtain ⟨s, hs⟩ : ∃ s, s = getN ((bs.drop 2).take 4) := ⟨_, rfl⟩
    rw [← hs] at hgr hb4 HR0
    have HG := Lib.hid hgr
    clear c2 hgr k8 k9 h8 h9 hu hv hl hv2 d0 d1 ht hc hs
    by_cases c3 : bs.take 8 = headB s
    · have e1 : (headB s == bs.take 8) = true := by simp [c3]
      have e2 : (headB s != bs.take 8) = false := by simp [c3]
      rw [HR0.out, if_neg (by simp [c3])]
      clear c3
      go_enter Try.func8, Try.ntmps8
      go_wp2_with fail
      have HW := Lib.hid (HeadW.first w)
      obtain ⟨wH, hwH⟩ : ∃ wH, wH = w.alloc (.cells #[.int .u32 0, .bool false, .bool false] 26) := ⟨_, rfl⟩
      rw [← hwH] at HW ⊢
      clear hwH
      refine (refGet_any _ _ n cap bs 2 4 (HS.out.below HW.out.2) (by omega) hcap (by unfold IntR; omega) (by unfold IntR; omega)).mono ?_
      rw [HG.out]
      rintro e w4 ⟨rfl, rfl⟩
      go_wp2_with fail
      have hcv : ∀ w', Below wH.heap.size wH w' → (convert 23 9 (.slice (some ⟨b, off, none⟩) 8 cap)).run Try.prog w' = .ok (.string ⟨(bs.take 8).toArray⟩) w' := fun w' h => run_conv (((HS.out.below HW.out.2).below h).take (by omega)) cap
      have hSw : Below wH.heap.size wH wH.drew := (Below.refl _ _).drew
      refine wp_region_lex (Below wH.heap.size wH) [(0, true), (1, true), (4, true), (5, true), (6, true), (2, false), (3, false), (7, true)] (by kernel_rfl) (by kernel_rfl) (fun c a d v w h => by cases d <;> exact h) ?_
      iterate 5
        refine lex_step (fun K hK => ?_)
        simp only [lexOp, List.getElem?_toArray, List.getElem?_cons_succ, List.getElem?_cons_zero]
        rw [if_pos (by rfl)]
        apply Exists.intro
        refine ⟨fun w' hS' => ?_, hSw, ?_⟩
        · first | (go_simp <;> with_reducible rfl) | (go_simp; go_bits; with_reducible rfl)
        go_simp
        try go_bits
        refine hK _ _ ?_
        clear hK K
      refine lex_step (fun K hK => ?_)
      simp only [lexOp, List.getElem?_toArray, List.getElem?_cons_succ, List.getElem?_cons_zero]
      rw [if_pos (by rfl)]
      go_step
      refine (refBytes_any _ s hb4).mono ?_
      rintro e w5 ⟨v5, m5, rfl, hown5, hb5⟩
      obtain ⟨a5, cap5, rfl, hsl5, _⟩ := Sl.ofOwn hown5
      replace hSw : Below wH.heap.size wH w5 := hSw.trans hb5
      have hcv1 := run_conv hsl5 cap5
      have HW5 := Lib.hid (HW.out.below hSw)
      clear hown5 hsl5 hb5
      go_simp
      refine hK _ _ ?_
      clear hK K
      refine lex_step (fun K hK => ?_)
      simp only [lexOp, List.getElem?_toArray, List.getElem?_cons_succ, List.getElem?_cons_zero]
      rw [if_pos (by rfl)]
      go_step
      refine hK _ _ ?_
      clear hK K hcv1
      iterate 1
        refine lex_step (fun K hK => ?_)
        simp only [lexOp, List.getElem?_toArray, List.getElem?_cons_succ, List.getElem?_cons_zero]
        rw [if_pos (by rfl)]
        apply Exists.intro
        refine ⟨fun w' hS' => ?_, hSw, ?_⟩
        · first | (go_simp <;> with_reducible rfl) | (go_simp; go_bits; with_reducible rfl)
        go_simp
        try go_bits
        refine hK _ _ ?_
        clear hK K
      refine lex_nil ?_
      clear hSw hcv
      go_wp2_with fail
      have HB5 := Lib.hid HW5.out.2
      obtain ⟨⟨q0, q1, q2⟩, ⟨f0, f1, f2⟩, hlt⟩ := HW5.out.cells
      have hne : w.heap.size ≠ w5.heap.size := by omega
      have hS3 : TwoS b off u v w5 := ⟨by rw [HB5.out.cell (p := ⟨b, off + 8, none⟩) hbw]; exact HC.out.1, by rw [HB5.out.cell (p := ⟨b, off + 9, none⟩) hbw]; exact HC.out.2⟩
      have l8 : ∀ w', TwoS b off u v w' → w'.cell? ⟨b, off + 8, none⟩ = some (.int .u8 (u : Int)) := fun w' h => h.1
      have l9 : ∀ w', TwoS b off u v w' → w'.cell? ⟨b, off + 9, none⟩ = some (.int .u8 (v : Int)) := fun w' h => h.2
      have hSw : TwoS b off u v w5.drew := hS3
      refine wp_region_lex (TwoS b off u v) [(0, true), (1, true), (2, true), (3, true), (4, true), (5, true), (6, true), (7, true), (8, true), (9, true), (10, true), (11, false), (12, true)] (by kernel_rfl) (by kernel_rfl) (fun c a d v w h => by cases d <;> exact h) ?_
      iterate 11
        refine lex_step (fun K hK => ?_)
        simp only [lexOp, List.getElem?_toArray, List.getElem?_cons_succ, List.getElem?_cons_zero]
        rw [if_pos (by rfl)]
        apply Exists.intro
        refine ⟨fun w' hS' => ?_, hSw, ?_⟩
        · first | (go_simp <;> with_reducible rfl) | (go_simp; go_bits; with_reducible rfl)
        go_simp
        try go_bits
        refine hK _ _ ?_
        clear hK K
      refine lex_step (fun K hK => ?_)
      simp only [lexOp, List.getElem?_toArray, List.getElem?_cons_succ, List.getElem?_cons_zero]
      rw [if_pos (by rfl)]
      go_step
      have hb5 : Below w.heap.size w5 (((w5.setCell ⟨w.heap.size, 0, none⟩ (.int .u32 (s : Int))).setCell ⟨w.heap.size, 1, none⟩ (.bool ((u : Int) == 0))).setCell ⟨w.heap.size, 2, none⟩ (.bool ((v : Int) != 255))).drew := (keep3 _ _ _ _ _).drew
      have hS5 : TwoS b off u v (((w5.setCell ⟨w.heap.size, 0, none⟩ (.int .u32 (s : Int))).setCell ⟨w.heap.size, 1, none⟩ (.bool ((u : Int) == 0))).setCell ⟨w.heap.size, 2, none⟩ (.bool ((v : Int) != 255))).drew := ⟨by rw [hb5.cell (p := ⟨b, off + 8, none⟩) hbw]; exact hS3.1, by rw [hb5.cell (p := ⟨b, off + 9, none⟩) hbw]; exact hS3.2⟩
      refine ⟨hS5, hK _ _ ?_⟩
      clear hK K hSw hb5
      have hSw := hS5
      clear hS5
      iterate 1
        refine lex_step (fun K hK => ?_)
        simp only [lexOp, List.getElem?_toArray, List.getElem?_cons_succ, List.getElem?_cons_zero]
        rw [if_pos (by rfl)]
        apply Exists.intro
        refine ⟨fun w' hS' => ?_, hSw, ?_⟩
        · first | (go_simp <;> with_reducible rfl) | (go_simp; go_bits; with_reducible rfl)
        go_simp
        try go_bits
        refine hK _ _ ?_
        clear hK K
      refine lex_nil ?_
      go_wp2
      have hd := HW5.out.done (.int .u32 (s : Int)) (.bool ((u : Int) == 0)) (.bool ((v : Int) != 255))
      exact bodyPost_ret (results_cell_row_tmp rfl _ _ w.heap.size _ _ _ _ rfl hd.1 Try.underlying26 rfl infoHead) rfl ⟨rfl, hd.2.drew⟩
    · have e1 : (headB s == bs.take 8) = false := by rw [beq_eq_false_iff_ne]; exact fun h => c3 h.symm
      have e2 : (headB s != bs.take 8) = true := by simp; exact fun h => c3 h.symm
      rw [HR0.out, if_pos c3]
      clear c3
      go_enter Try.func8, Try.ntmps8
      go_wp2_with fail
      have HW := Lib.hid (HeadW.first w)
      obtain ⟨wH, hwH⟩ : ∃ wH, wH = w.alloc (.cells #[.int .u32 0, .bool false, .bool false] 26) := ⟨_, rfl⟩
      rw [← hwH] at HW ⊢
      clear hwH
      refine (refGet_any _ _ n cap bs 2 4 (HS.out.below HW.out.2) (by omega) hcap (by unfold IntR; omega) (by unfold IntR; omega)).mono ?_
      rw [HG.out]
      rintro e w4 ⟨rfl, rfl⟩
      go_wp2_with fail
      have hcv : ∀ w', Below wH.heap.size wH w' → (convert 23 9 (.slice (some ⟨b, off, none⟩) 8 cap)).run Try.prog w' = .ok (.string ⟨(bs.take 8).toArray⟩) w' := fun w' h => run_conv (((HS.out.below HW.out.2).below h).take (by omega)) cap
      have hSw : Below wH.heap.size wH wH.drew := (Below.refl _ _).drew
      refine wp_region_lex (Below wH.heap.size wH) [(0, true), (1, true), (4, true), (5, true), (6, true), (2, false), (3, false), (7, true)] (by kernel_rfl) (by kernel_rfl) (fun c a d v w h => by cases d <;> exact h) ?_
      iterate 5
        refine lex_step (fun K hK => ?_)
        simp only [lexOp, List.getElem?_toArray, List.getElem?_cons_succ, List.getElem?_cons_zero]
        rw [if_pos (by rfl)]
        apply Exists.intro
        refine ⟨fun w' hS' => ?_, hSw, ?_⟩
        · first | (go_simp <;> with_reducible rfl) | (go_simp; go_bits; with_reducible rfl)
        go_simp
        try go_bits
        refine hK _ _ ?_
        clear hK K
      refine lex_step (fun K hK => ?_)
      simp only [lexOp, List.getElem?_toArray, List.getElem?_cons_succ, List.getElem?_cons_zero]
      rw [if_pos (by rfl)]
      go_step
      refine (refBytes_any _ s hb4).mono ?_
      rintro e w5 ⟨v5, m5, rfl, hown5, hb5⟩
      obtain ⟨a5, cap5, rfl, hsl5, _⟩ := Sl.ofOwn hown5
      replace hSw : Below wH.heap.size wH w5 := hSw.trans hb5
      have hcv1 := run_conv hsl5 cap5
      have HW5 := Lib.hid (HW.out.below hSw)
      clear hown5 hsl5 hb5
      go_simp
      refine hK _ _ ?_
      clear hK K
      refine lex_step (fun K hK => ?_)
      simp only [lexOp, List.getElem?_toArray, List.getElem?_cons_succ, List.getElem?_cons_zero]
      rw [if_pos (by rfl)]
      go_step
      refine hK _ _ ?_
      clear hK K hcv1
      iterate 1
        refine lex_step (fun K hK => ?_)
        simp only [lexOp, List.getElem?_toArray, List.getElem?_cons_succ, List.getElem?_cons_zero]
        rw [if_pos (by rfl)]
        apply Exists.intro
        refine ⟨fun w' hS' => ?_, hSw, ?_⟩
        · first | (go_simp <;> with_reducible rfl) | (go_simp; go_bits; with_reducible rfl)
        go_simp
        try go_bits
        refine hK _ _ ?_
        clear hK K
      refine lex_nil ?_
      clear hSw hcv
      obtain ⟨⟨q0, q1, q2⟩, ⟨f0, f1, f2⟩, hlt⟩ := HW5.out.cells
      have hne : w.heap.size ≠ w5.heap.size := by omega
      go_wp2
      have hd := HW5.out.done (.int .u32 0) (.bool false) (.bool false)
      exact bodyPost_ret (results_cell_row_tmp rfl _ _ w.heap.size _ _ _ _ rfl hd.1 Try.underlying26 rfl infoHead) rfl ⟨rfl, hd.2⟩
  · have hR : headR bs = ⟨0, false, false, 8⟩ := by unfold headR; rw [if_neg (by omega), if_pos c2]
    rw [hR]
    have hd : ¬ (x0 = 67 ∧ x1 = 66) := by
      rintro ⟨rfl, rfl⟩
      apply c2
      rw [ht]
      congr 1
      · exact UInt8.toNat_inj.1 hx0.symm
      · congr 1
        exact UInt8.toNat_inj.1 hx1.symm
    clear hR c2 ht hx0 hx1 hc
    by_cases e0 : x0 = 67
    · have e1 : ((x1 : Int) != 66) = true := by simp; omega
      subst e0
      clear hd
      go_enter Try.func8, Try.ntmps8
      go_wp2
      have h1 := HeadW.first w
      exact bodyPost_ret (results_cell_row_tmp rfl _ _ w.heap.size _ _ _ _ rfl h1.1 Try.underlying26 rfl infoHead) rfl ⟨rfl, h1.2⟩
    · have e1 : ((x0 : Int) != 67) = true := by simp; omega
      clear hd e0
      go_enter Try.func8, Try.ntmps8
      go_wp2
      have h1 := HeadW.first w
      exact bodyPost_ret (results_cell_row_tmp rfl _ _ w.heap.size _ _ _ _ rfl h1.1 Try.underlying26 rfl infoHead) rfl ⟨rfl, h1.2⟩
end Go.Proofs.Ytdnnodpchjnleaa
