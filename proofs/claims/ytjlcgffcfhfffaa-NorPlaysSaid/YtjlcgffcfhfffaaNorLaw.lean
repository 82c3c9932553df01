/- nor: the walk of NorFuse. No condition. -/
import Derived.Test.YtjlcgffcfhfffaaNorFix
namespace Go.Proofs.Ytjlcgffcfhfffaa
open Go.ChangeShapes Go.WideShapes Go.ChangeAt Go.RowKit
open Fl
theorem nil_own {w : World} (B : Nat) : Sl encB w none 0 [] := Sl.nil w none
theorem own_notIn {w : World} {B : Nat} {e : TypeId} {a : Option Addr} {n c g : Nat} {xs : List Value} (h : w.ownsRow B e 1 (.slice a n c) n xs) (hg : g < B) : NotIn a n g := by
  intro hn b off hx
  rcases h.2 with ⟨h2, _⟩ | ⟨g', cap', cur, hv, hb, _⟩
  · cases h2; cases hx
  · cases hv; cases hx; omega
/-- The flash is down, and holds k bytes 0. -/
def DownF (k : Nat) (f : Fl) : Prop := f.down = true ∧ f.bs.length = 128 ∧ f.bs.take k = List.replicate k 0
set_option maxRecDepth 100000 in
set_option maxHeartbeats 8000000 in
theorem walk_NorFuse (n keep : Int) (mask : UInt8) (m : Int) (w : World) (hn : (Lit.int .u8 n).wf = true) (hk : (Lit.int .i64 keep).wf = true) (hm : (Lit.int .u8 m).wf = true) :
    Calls Try.prog 5 #[.int .u8 n, .agg #[.int .i64 keep, .int .u8 (mask.toNat : Int)], .int .u8 m] w fun e w' => e = .returned (.bool true) ∧ Below w.heap.size w w' := by
  obtain ⟨n1, n2⟩ := bounds_u8 hn
  obtain ⟨m1, m2⟩ := bounds_u8 hm
  have hkr : IntR keep := bounds_i64 hk
  obtain ⟨k, hk0, hk1⟩ : ∃ k : Nat, n % 30 = k ∧ k ≤ 29 := ⟨(n % 30).toNat, by omega, by omega⟩
  obtain ⟨r, hr0, hr1⟩ : ∃ r : Nat, 1 + m % 4 = r ∧ r ≤ 4 := ⟨(1 + m % 4).toNat, by omega, by omega⟩
  have hkt : Int.tmod n 30 = k := by rw [Int.tmod_eq_emod_of_nonneg (by omega)]; exact hk0
  have hb0 : Below w.heap.size w (w.alloc (.cells #[.int .i64 keep, .int .u8 (mask.toNat : Int)] 39)) := (Below.refl _ _).alloc (Nat.le_refl _) _
  have hbx : ∀ w', Below (w.alloc (.cells #[.int .i64 keep, .int .u8 (mask.toNat : Int)] 39)).heap.size (w.alloc (.cells #[.int .i64 keep, .int .u8 (mask.toNat : Int)] 39)) w' → BoxS w.heap.size (.int .i64 keep) (.int .u8 (mask.toNat : Int)) w' := by
    intro w' h
    constructor
    · rw [h.cell (by simp), cell_of_row _ w.heap.size 0 _ _ _ (heap_alloc_last w _)]; rfl
    · rw [h.cell (by simp), cell_of_row _ w.heap.size 1 _ _ _ (heap_alloc_last w _)]; rfl
  have HB0 := Lib.hid hb0
  have HBX := Lib.hid hbx
  have HR0 := Lib.hid hr0
  clear hb0 hbx hn hm hk
  generalize hW0 : w.alloc (.cells #[.int .i64 keep, .int .u8 (mask.toNat : Int)] 39) = W0 at HB0 HBX
  have FX := Lib.hid (fixed_any W0)
  go_enter Try.func5, Try.ntmps5
  go_upto_region 1 with fail
  clear hW0
  go_wp2_with fail
  with_reducible refine FX.out.mono ?_
  rintro e w1 ⟨rfl, hb⟩
  have HA := Lib.hid hb
  clear hb FX
  have N1 := Lib.hid (show Calls Try.prog 10 #[.agg #[.int .i64 2, .int .i64 64, .int .i64 100]] w1 (NewMade w1 2 64 100) from New_made w1 2 64 100 (by decide))
  go_wp2_with fail
  with_reducible refine N1.out.mono ?_
  rintro e w2 ⟨g, gb, gc, cb, cc, rfl, hF, hb⟩
  have HF := Lib.hid hF
  have HB := Lib.hid hb
  have b1 := (HBX.out w2 (HA.out.trans (hb.mono HA.out.size))).1
  have b2 := (HBX.out w2 (HA.out.trans (hb.mono HA.out.size))).2
  have PF := Lib.hid (Fuse_at w1.heap.size w1 w2 g gb gc cb cc _ HF.out HB.out (Nat.le_refl _) k keep mask (by unfold IntR; omega) hkr)
  clear hF hb N1
  go_wp2_with fail
  with_reducible refine PF.out.mono ?_
  rintro e w3 ⟨rfl, hF, hb⟩
  replace HF := Lib.hid (show FlAt w1.heap.size w3 g gb gc cb cc (fused k 0 keep mask) by rw [← fused_0]; exact hF)
  replace HB := Lib.hid hb
  clear hF hb PF b1 b2
  go_wp2_with fail
  go_loopg [30] k (fun gn i wr => ∃ j : Nat, j ≤ k ∧ gn = k - j ∧ i = .int .i64 j ∧ Hid (FlAt w1.heap.size wr g gb gc cb cc (fused k j keep mask)) ∧ Hid (Below w1.heap.size w1 wr))
  case atStart => exact ⟨0, by omega, by omega, by go_num, HF, HB⟩
  case round =>
    obtain ⟨j, hj, rfl, rfl, HF, HB⟩ := hrel
    by_cases hlt : j < k
    · obtain ⟨e1, e2⟩ := fused_step k j keep mask hlt hk1
      have PP := Lib.hid (Prog_lit w1.heap.size w1 wr g gb gc cb cc _ HF.out HB.out (Nat.le_refl _) j (by unfold IntR; omega) 0 0 rfl)
      rw [e1, e2] at PP
      clear e1 e2
      go_wp2_with fail
      with_reducible refine PP.out.mono ?_
      rintro e w4 ⟨rfl, hF, hb⟩
      have HF4 := Lib.hid hF
      have HB4 := Lib.hid hb
      clear hF hb PP
      go_wp2_with fail
      go_roundg (k - (j + 1))
      case measure => omega
      case rel => exact ⟨j + 1, by omega, rfl, by go_num, HF4, HB4⟩
    · obtain rfl : j = k := by omega
      obtain ⟨e1, e2, e3, e4⟩ := fused_torn j keep mask hk1
      have PP := Lib.hid (Prog_lit w1.heap.size w1 wr g gb gc cb cc _ HF.out HB.out (Nat.le_refl _) 100 (by unfold IntR; omega) 0 0 rfl)
      rw [e1] at PP
      have HD := Lib.hid (show DownF j ((fused j j keep mask).prog 100 [0]) from ⟨e2, e3, e4⟩)
      clear e1 e2 e3 e4
      generalize (fused j j keep mask).prog 100 [0] = f at PP HD
      go_wp2_with fail
      with_reducible refine PP.out.mono ?_
      rintro e w4 ⟨rfl, hF, hb⟩
      have HF4 := Lib.hid hF
      have HB4 := Lib.hid hb
      clear hF hb PP HF HB
      go_wp2_with fail
      go_loopg [46] r (fun gn i wr => ∃ q : Nat, q ≤ r ∧ gn = r - q ∧ i = .int .u8 q ∧ Hid (FlAt w1.heap.size wr g gb gc cb cc f) ∧ Hid (Below w1.heap.size w1 wr))
      case atStart => exact ⟨0, by omega, by omega, by go_num, HF4, HB4⟩
      case round =>
        obtain ⟨q, hq, rfl, rfl, HF, HB⟩ := hrel
        by_cases hlt : q < r
        · have PR := Lib.hid (Read_at w1.heap.size w1 wr g gb gc cb cc f HF.out HB.out (Nat.le_refl _) 0 1 (by unfold IntR; omega) (by unfold IntR; omega))
          rw [read_down HD.out.1] at PR
          go_wp2_with fail
          with_reducible refine PR.out.mono ?_
          rintro e w5 ⟨a, l, c, rfl, hown, hmc, hF, hb, hb5⟩
          replace HF := Lib.hid hF
          replace HB := Lib.hid hb
          clear hF hb PR hown hmc hb5
          have PE := Lib.hid (Erase_at w1.heap.size w1 w5 g gb gc cb cc f HF.out HB.out (Nat.le_refl _) 0 (by unfold IntR; omega))
          rw [(erase_down HD.out.1 0).1, (erase_down HD.out.1 0).2] at PE
          go_wp2_with fail
          with_reducible refine PE.out.mono ?_
          rintro e w6 ⟨rfl, hF, hb⟩
          replace HF := Lib.hid hF
          replace HB := Lib.hid hb
          clear hF hb PE
          have PP := Lib.hid (Program_at w1.heap.size w1 w6 g gb gc cb cc f HF.out HB.out (Nat.le_refl _) 0 none 0 0 [] (Sl.nil _ _) (Nat.le_refl _) (by unfold IntR; omega) (by decide) NotIn.nil NotIn.nil NotIn.nil)
          rw [(prog_down HD.out.1 0 []).1, (prog_down HD.out.1 0 []).2] at PP
          go_wp2_with fail
          with_reducible refine PP.out.mono ?_
          rintro e w7 ⟨rfl, hF, hb⟩
          replace HF := Lib.hid hF
          replace HB := Lib.hid hb
          clear hF hb PP
          go_wp2_with fail
          go_roundg (r - (q + 1))
          case measure => omega
          case rel => exact ⟨q + 1, by omega, rfl, by go_num, HF, HB⟩
        · obtain rfl : q = r := by omega
          clear HF4 HB4
          have PS := Lib.hid (Reset_at w1.heap.size w1 wr g gb gc cb cc f HF.out HB.out (Nat.le_refl _))
          obtain ⟨e1, e2, e3⟩ := fused_end (f := f) j hk1 HD.out.2.1 HD.out.2.2
          have HE3 := Lib.hid e3
          go_wp2_with fail
          with_reducible refine PS.out.mono ?_
          rintro e w5 ⟨rfl, hF, hb⟩
          replace HF := Lib.hid hF
          replace HB := Lib.hid hb
          clear hF hb PS
          have PR := Lib.hid (Read_at w1.heap.size w1 w5 g gb gc cb cc f.reset HF.out HB.out (Nat.le_refl _) 0 j (by unfold IntR; omega) (by unfold IntR; omega))
          rw [e1, e2] at PR
          clear e1 e2 e3
          go_wp2_with fail
          with_reducible refine PR.out.mono ?_
          rintro e w6 ⟨a, l, c, rfl, hown, hmc, hF, hb, hb6⟩
          have hlt5 := HF.out.fl.lt
          replace HF := Lib.hid hF
          replace HB := Lib.hid hb
          have SL := Lib.hid (Sl.ofOwnS hown).1
          have N1 := Lib.hid (own_notIn hown hlt5.1)
          have N2 := Lib.hid (own_notIn hown hlt5.2.1)
          have N3 := Lib.hid (own_notIn hown hlt5.2.2)
          clear hF hb PR hown hb6 hlt5
          go_upto_region 22 with fail
          refine wp_region_lexS (Kept g gb gc w6) (.of [(0, true), (1, true), (2, true), (3, true), (4, true), (5, true), (6, true), (7, true), (8, true), (9, true), (10, false), (11, true), (12, true), (13, true), (14, true), (15, true), (16, false), (17, false), (18, true), (19, true), (20, true)] (.stir [])) (by kernel_rfl) (by kernel_rfl) (fun c a d v w h => by cases d <;> exact h) ?_
          have hSw : Kept g gb gc w6 w6.drew := (Kept.refl _ _ _ _).drew
          have cv := fun w' (h : Kept g gb gc w6 w') => run_conv (SL.out.kept h N1.out N2.out N3.out) c
          have hmk := fun w' => make_bytes w' j (by omega)
          replace HF := Lib.hid (show FlAt w1.heap.size w6.drew g gb gc cb cc f.reset from HF.out.below (Below.refl _ _).drew)
          replace HB := Lib.hid HB.out.drew
          generalize w6.drew = W6 at HF HB hSw ⊢
          iterate 10
            refine lexS_step (fun K hK => ?_)
            simp only [lexOp, List.getElem?_toArray, List.getElem?_cons_succ, List.getElem?_cons_zero]
            rw [if_pos (by rfl)]
            apply Exists.intro
            refine ⟨fun w' hS' => ?_, hSw, ?_⟩
            · first | (go_simp <;> with_reducible rfl) | (go_simp; go_bits; with_reducible rfl)
            go_simp
            try go_bits
            refine hK _ _ ?_
            clear hK K
          refine lexS_step (fun K hK => ?_)
          simp only [lexOp, List.getElem?_toArray, List.getElem?_cons_succ, List.getElem?_cons_zero]
          rw [if_pos (by rfl)]
          go_step
          have hb7 : Below W6.heap.size W6 (W6.alloc (.cells (Array.replicate j (encB 0)) 5)) := (Below.refl _ _).alloc (Nat.le_refl _) _
          replace hSw := hSw.trans (Kept.ofBelow hb7)
          have hl6 := HF.out.fl.lt
          replace HF := Lib.hid (HF.out.below hb7)
          replace HB := Lib.hid (HB.out.trans (hb7.mono HB.out.size))
          have hs7 := Sl.lit (enc := encB) (xs := List.replicate j 0) (n := j) (heap_alloc_last W6 (.cells (Array.replicate j (encB 0)) 5)) (by simp) (by simp)
          generalize W6.alloc (.cells (Array.replicate j (encB 0)) 5) = W7 at hSw HF HB hs7 ⊢
          refine ⟨hSw, hK _ _ ?_⟩
          clear hK K cv hmk hb7
          refine lexS_strong (Kept g gb gc W7) (fun x hx => hSw.trans hx) ?_
          have cv := fun w' (h : Kept g gb gc W7 w') => run_conv (hs7.kept h (NotIn.new hl6.1) (NotIn.new hl6.2.1) (NotIn.new hl6.2.2)) j
          clear hSw
          have hSw : Kept g gb gc W7 W7 := Kept.refl _ _ _ _
          clear hs7
          iterate 5
            refine lexS_step (fun K hK => ?_)
            simp only [lexOp, List.getElem?_toArray, List.getElem?_cons_succ, List.getElem?_cons_zero]
            rw [if_pos (by rfl)]
            apply Exists.intro
            refine ⟨fun w' hS' => ?_, hSw, ?_⟩
            · first | (go_simp <;> with_reducible rfl) | (go_simp; go_bits; with_reducible rfl)
            go_simp
            try go_bits
            refine hK _ _ ?_
            clear hK K
          refine lexS_step (fun K hK => ?_)
          simp only [lexOp, List.getElem?_toArray, List.getElem?_cons_succ, List.getElem?_cons_zero]
          rw [if_pos (by rfl)]
          go_step
          refine ⟨hSw.trans (Kept.ofBelow ((Below.refl _ _).alloc (Nat.le_refl _) _)), hK _ _ ?_⟩
          clear hK K cv
          refine lexS_step (fun K hK => ?_)
          simp only [lexOp, List.getElem?_toArray, List.getElem?_cons_succ, List.getElem?_cons_zero]
          rw [if_pos (by rfl)]
          go_step
          have PP := Prog_kept w1.heap.size w1 W7 g gb gc cb cc f.reset HF.out HB.out (Nat.le_refl _) 127 (by unfold IntR; omega) 0 0 rfl
          rw [HE3.out] at PP
          with_reducible refine PP.mono ?_
          rintro e w8 ⟨rfl, hk8, hb⟩
          have HB8 := Lib.hid (show Below w.heap.size w w8 from (HB0.out.trans (HA.out.mono HB0.out.size)).trans (hb.mono (Nat.le_trans HB0.out.size HA.out.size)))
          clear PP hb
          refine ⟨hk8, ?_⟩
          go_simp
          refine hK _ _ ?_
          clear hK K hSw
          have hSw := hk8
          clear hk8
          iterate 3
            refine lexS_step (fun K hK => ?_)
            simp only [lexOp, List.getElem?_toArray, List.getElem?_cons_succ, List.getElem?_cons_zero]
            rw [if_pos (by rfl)]
            apply Exists.intro
            refine ⟨fun w' hS' => ?_, hSw, ?_⟩
            · first | (go_simp <;> with_reducible rfl) | (go_simp; go_bits; with_reducible rfl)
            go_simp
            try go_bits
            refine hK _ _ ?_
            clear hK K
          refine lexS_stir (fun y => y = w8) (fun y hy => hy ▸ hSw) rfl ?_
          refine stir_nil (fun y hy => ?_)
          subst hy
          go_wp2_with fail
          go_ret
          exact ⟨rfl, HB8.out⟩
end Go.Proofs.Ytjlcgffcfhfffaa
