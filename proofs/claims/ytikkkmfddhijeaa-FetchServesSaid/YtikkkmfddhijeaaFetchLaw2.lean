/- fetch: the walk of FetchServes. No condition. -/
import Derived.Test.YtikkkmfddhijeaaFetchLaw
namespace Go.Proofs.Ytikkkmfddhijeaa
open Go.ChangeShapes Go.WideShapes Go.ChangeAt Go.RowKit
theorem conv_part {w : World} {b off len cap : Nat} {bs : List UInt8} (h : Sl encB w (some ⟨b, off, none⟩) len bs) {f n : Nat} (h1 : f < len) (h2 : n ≤ len - f) (c : Nat) :
    (convert 22 9 (.slice (some ⟨b, off + f, none⟩) n c)).run Try.prog w = .ok (.string ⟨((bs.drop f).take n).toArray⟩) w := by
  obtain ⟨b', o', e, hd⟩ := h.drop h1
  simp only [Option.some.injEq, Addr.mk.injEq, and_true] at e
  obtain ⟨rfl, rfl⟩ := e
  exact run_conv (hd.take h2) c
set_option maxRecDepth 100000 in
set_option maxHeartbeats 8000000 in
theorem walk_FetchServes (a : Option Addr) (len cap : Nat) (z : List Int) (f n : Int) (w : World) (h0 : IsRow .u8 w a len cap z) (hf : (Lit.int .i64 f).wf = true) (hn : (Lit.int .i64 n).wf = true) :
    Calls Try.prog 4 #[.slice a len cap, .int .i64 f, .int .i64 n] w fun e w' => e = .returned (.bool true) ∧ Below w.heap.size w w' := by
  have hcap := Row.cap h0
  obtain ⟨bs, hB, hm⟩ := Bs.ofRow h0
  unfold maxLen at hm
  have HE := Lib.hid hB.sl
  have HF : Hid (IntR f) := bounds_i64 hf
  have HN : Hid (IntR n) := bounds_i64 hn
  clear h0 hB hf hn
  by_cases hl : 2000 < len
  · go_enter Try.func4, Try.ntmps4
    go_wp2_with fail
    refine (fixed30_any _).mono ?_
    rintro e w1 ⟨rfl, hb1⟩
    go_wp2_with fail
    go_ret
    exact ⟨rfl, hb1⟩
  by_cases hp : partOk len f n
  · obtain ⟨f, rfl⟩ : ∃ k : Nat, f = k := ⟨f.toNat, by unfold partOk at hp; omega⟩
    obtain ⟨n, rfl⟩ : ∃ k : Nat, n = k := ⟨n.toNat, by unfold partOk at hp; omega⟩
    have hp' : n ≥ 1 ∧ f + n ≤ len := by unfold partOk at hp; omega
    obtain ⟨b, off, rfl, _⟩ := HE.out.drop (j := f) (by omega)
    have HP := Lib.hid hp
    clear hp
    have g1 : (0 : Int) ≤ (f : Int) := by omega
    have g2 : (f : Int) ≤ (f : Int) + (n : Int) := by omega
    have g3 : (f : Int) + (n : Int) ≤ (cap : Int) := by omega
    have g4 : ¬ (n : Int) < 1 := by omega
    have g7 : ¬ cap = f := by omega
    have g5 : ¬ (len : Int) < (f : Int) := by omega
    have g6 : ¬ (len : Int) - (f : Int) < (n : Int) := by omega
    by_cases hj : jobOk f n 0 = true
    · go_enter Try.func4, Try.ntmps4
      go_wp2_with fail
      refine (fixed30_any _).mono ?_
      rintro e w1 ⟨rfl, hb1⟩
      have H1 := Lib.hid hb1
      clear hb1
      go_wp2_with fail
      refine (Serve_any w1 (some ⟨b, off, none⟩) len cap bs f n (HE.out.below H1.out) hcap (by omega) HP.out).mono ?_
      rw [show partL bs (f : Int) (n : Int) = (bs.drop f).take n from rfl]
      rintro e w2 ⟨a2, n2, c2, rfl, hown2, hb2⟩
      obtain ⟨hsl2, hc2⟩ := Sl.ofOwnS hown2
      have hn2 := hsl2.1
      have HS2 := Lib.hid hsl2
      clear hown2 hsl2
      have H2 := Lib.hid (H1.out.trans (hb2.mono H1.out.size))
      clear hb2 H1
      go_wp2_with fail
      refine (New_any _ f n HF.out HN.out).mono ?_
      rw [if_pos hj, if_pos hj]
      rintro e w3 ⟨rfl, hb3⟩
      have hb3' : Below w2.heap.size w2 w3 := ((Below.refl _ _).alloc (Nat.le_refl _) _).trans (hb3.mono (by simp))
      have K7 := Lib.hid (Blk3.below (w1 := w3) (heap_alloc_last w2 (.cells #[.int .i64 f, .slice a2 n2 c2, .int .u32 (S32 ((bs.drop f).take n))] 27)) hb3)
      have H3 := Lib.hid (H2.out.trans (hb3'.mono H2.out.size))
      have HS3 := Lib.hid (HS2.out.below hb3')
      clear HS2
      clear hb3 hb3' H2
      go_wp2_with fail
      refine (refRight_any _ f n none 0 0 HF.out HN.out (by unfold maxLen; omega)).mono ?_
      rw [hj]
      rintro e w4 ⟨rfl, hb4⟩
      have hb4' : Below w3.heap.size w3 w4 := ((Below.refl _ _).alloc (Nat.le_refl _) _).trans (hb4.mono (by simp))
      have K9 := Lib.hid (Blk3.below (w1 := w4) (heap_alloc_last w3 (.cells #[.int .i64 f, .int .i64 n, .slice none 0 0] 24)) hb4)
      have K7b := Lib.hid (K7.out.below hb4')
      have H4 := Lib.hid (H3.out.trans (hb4'.mono H3.out.size))
      have HS4 := Lib.hid (HS3.out.below hb4')
      clear HS3
      clear hb4 hb4' H3 K7
      obtain ⟨p0, p1, p2, f0, f1, f2, lt1⟩ := K9.out.box
      go_wp2_with fail
      refine (refSame_any w4 f n none 0 0 [] f n none 0 0 [] (Sl.nil _ _) (Sl.nil _ _)).mono ?_
      rw [show (((f : Int) == f) && (((n : Int) == n) && (([] : List UInt8) == []))) = true by simp]
      rintro e w5 ⟨rfl, hb5⟩
      have K7c := Lib.hid (K7b.out.below hb5)
      have H5 := Lib.hid (H4.out.trans (hb5.mono H4.out.size))
      have HS5 := Lib.hid (HS4.out.below hb5)
      clear HS4
      clear hb5 H4 K7b K9 p0 p1 p2 f0 f1 f2 lt1
      obtain ⟨p0, p1, p2, f0, f1, f2, lt1⟩ := K7c.out.box
      go_wp2_with fail
      have ld0 : ∀ w', Below w5.heap.size w5 w' → w'.cell? ⟨w2.heap.size, 0, none⟩ = some (.int .i64 f) := fun w' h => (K7c.out.below h).box.c0
      have ld1 : ∀ w', Below w5.heap.size w5 w' → w'.cell? ⟨w2.heap.size, 1, none⟩ = some (.slice a2 n2 c2) := fun w' h => (K7c.out.below h).box.c1
      have ld2 : ∀ w', Below w5.heap.size w5 w' → w'.cell? ⟨w2.heap.size, 2, none⟩ = some (.int .u32 (S32 ((bs.drop f).take n))) := fun w' h => (K7c.out.below h).box.c2
      have cv1 : ∀ w', Below w5.heap.size w5 w' → (convert 22 9 (.slice a2 n2 c2)).run Try.prog w' = .ok (.string ⟨((bs.drop f).take n).toArray⟩) w' := fun w' h => run_conv (HS5.out.below h) c2
      have cv2 : ∀ w', Below w5.heap.size w5 w' → (convert 22 9 (.slice (some ⟨b, off + f, none⟩) n (cap - f))).run Try.prog w' = .ok (.string ⟨((bs.drop f).take n).toArray⟩) w' := fun w' h => conv_part (HE.out.below (H5.out.trans (h.mono H5.out.size))) (cap := cap) (by omega) (by omega) _
      have hSw : Below w5.heap.size w5 w5.drew := (Below.refl _ _).drew
      refine wp_region_lex (Below w5.heap.size w5) [(0, true), (1, true), (2, true), (3, true), (4, true), (5, true), (6, true), (7, true), (8, true), (9, true), (10, true), (11, true), (12, true), (13, true), (14, true), (15, true), (16, true), (17, true), (18, true), (19, true), (20, true), (21, true), (22, true), (23, true), (24, true), (25, false), (26, true), (27, true), (28, true)] (by kernel_rfl) (by kernel_rfl) (fun c a d v w h => by cases d <;> exact h) ?_
      iterate 25
        refine lex_step (fun K hK => ?_)
        simp only [lexOp, List.getElem?_toArray, List.getElem?_cons_succ, List.getElem?_cons_zero]
        rw [if_pos (by rfl)]
        apply Exists.intro
        refine ⟨fun w' hS' => ?_, hSw, ?_⟩
        · first | (go_simp <;> with_reducible rfl) | (go_simp; go_bits; with_reducible rfl)
        go_simp
        try go_bits
        refine hK _ _ ?_
        clear hK K
      refine lex_step (fun K hK => ?_)
      simp only [lexOp, List.getElem?_toArray, List.getElem?_cons_succ, List.getElem?_cons_zero]
      rw [if_pos (by rfl)]
      go_step
      refine (refSum32_s _ a2 n2 c2 ((bs.drop f).take n) (HS5.out.below hSw) (by have := List.length_take_le n (bs.drop f); omega)).mono ?_
      rintro e w6 ⟨rfl, rfl⟩
      go_simp
      refine hK _ _ ?_
      clear hK K
      iterate 3
        refine lex_step (fun K hK => ?_)
        simp only [lexOp, List.getElem?_toArray, List.getElem?_cons_succ, List.getElem?_cons_zero]
        rw [if_pos (by rfl)]
        apply Exists.intro
        refine ⟨fun w' hS' => ?_, hSw, ?_⟩
        · first | (go_simp <;> with_reducible rfl) | (go_simp; go_bits; with_reducible rfl)
        go_simp
        try go_bits
        refine hK _ _ ?_
        clear hK K
      refine lex_nil ?_
      go_wp2
      go_ret
      exact ⟨rfl, H5.out.trans (hSw.mono H5.out.size)⟩
    · go_enter Try.func4, Try.ntmps4
      go_wp2_with fail
      refine (fixed30_any _).mono ?_
      rintro e w1 ⟨rfl, hb1⟩
      have H1 := Lib.hid hb1
      clear hb1
      go_wp2_with fail
      refine (Serve_any w1 (some ⟨b, off, none⟩) len cap bs f n (HE.out.below H1.out) hcap (by omega) HP.out).mono ?_
      rw [show partL bs (f : Int) (n : Int) = (bs.drop f).take n from rfl]
      rintro e w2 ⟨a2, n2, c2, rfl, hown2, hb2⟩
      obtain ⟨hsl2, hc2⟩ := Sl.ofOwnS hown2
      have hn2 := hsl2.1
      have HS2 := Lib.hid hsl2
      clear hown2 hsl2
      have H2 := Lib.hid (H1.out.trans (hb2.mono H1.out.size))
      clear hb2 H1
      go_wp2_with fail
      refine (New_any _ f n HF.out HN.out).mono ?_
      rw [if_neg hj, if_neg hj]
      rintro e w3 ⟨rfl, hb3⟩
      have hb3' : Below w2.heap.size w2 w3 := ((Below.refl _ _).alloc (Nat.le_refl _) _).trans (hb3.mono (by simp))
      have K7 := Lib.hid (Blk3.below (w1 := w3) (heap_alloc_last w2 (.cells #[.int .i64 f, .slice a2 n2 c2, .int .u32 (S32 ((bs.drop f).take n))] 27)) hb3)
      have H3 := Lib.hid (H2.out.trans (hb3'.mono H2.out.size))
      have HS3 := Lib.hid (HS2.out.below hb3')
      clear HS2
      clear hb3 hb3' H2
      go_wp2_with fail
      refine (refRight_any _ f n none 0 0 HF.out HN.out (by unfold maxLen; omega)).mono ?_
      rw [Bool.not_eq_true _ |>.mp hj]
      rintro e w4 ⟨rfl, hb4⟩
      have hb4' : Below w3.heap.size w3 w4 := ((Below.refl _ _).alloc (Nat.le_refl _) _).trans (hb4.mono (by simp))
      have K9 := Lib.hid (Blk3.below (w1 := w4) (heap_alloc_last w3 (.cells #[.int .i64 0, .int .i64 0, .slice none 0 0] 24)) hb4)
      have K7b := Lib.hid (K7.out.below hb4')
      have H4 := Lib.hid (H3.out.trans (hb4'.mono H3.out.size))
      have HS4 := Lib.hid (HS3.out.below hb4')
      clear HS3
      clear hb4 hb4' H3 K7
      have K7c := K7b
      have H5 := H4
      have HS5 := HS4
      obtain ⟨p0, p1, p2, f0, f1, f2, lt1⟩ := K7c.out.box
      go_wp2_with fail
      have ld0 : ∀ w', Below w4.heap.size w4 w' → w'.cell? ⟨w2.heap.size, 0, none⟩ = some (.int .i64 f) := fun w' h => (K7c.out.below h).box.c0
      have ld1 : ∀ w', Below w4.heap.size w4 w' → w'.cell? ⟨w2.heap.size, 1, none⟩ = some (.slice a2 n2 c2) := fun w' h => (K7c.out.below h).box.c1
      have ld2 : ∀ w', Below w4.heap.size w4 w' → w'.cell? ⟨w2.heap.size, 2, none⟩ = some (.int .u32 (S32 ((bs.drop f).take n))) := fun w' h => (K7c.out.below h).box.c2
      have cv1 : ∀ w', Below w4.heap.size w4 w' → (convert 22 9 (.slice a2 n2 c2)).run Try.prog w' = .ok (.string ⟨((bs.drop f).take n).toArray⟩) w' := fun w' h => run_conv (HS5.out.below h) c2
      have cv2 : ∀ w', Below w4.heap.size w4 w' → (convert 22 9 (.slice (some ⟨b, off + f, none⟩) n (cap - f))).run Try.prog w' = .ok (.string ⟨((bs.drop f).take n).toArray⟩) w' := fun w' h => conv_part (HE.out.below (H5.out.trans (h.mono H5.out.size))) (cap := cap) (by omega) (by omega) _
      have hSw : Below w4.heap.size w4 w4.drew := (Below.refl _ _).drew
      refine wp_region_lex (Below w4.heap.size w4) [(0, true), (1, true), (2, true), (3, true), (4, true), (5, true), (6, true), (7, true), (8, true), (9, true), (10, true), (11, true), (12, true), (13, true), (14, true), (15, true), (16, true), (17, true), (18, true), (19, true), (20, true), (21, true), (22, true), (23, true), (24, true), (25, false), (26, true), (27, true), (28, true)] (by kernel_rfl) (by kernel_rfl) (fun c a d v w h => by cases d <;> exact h) ?_
      iterate 25
        refine lex_step (fun K hK => ?_)
        simp only [lexOp, List.getElem?_toArray, List.getElem?_cons_succ, List.getElem?_cons_zero]
        rw [if_pos (by rfl)]
        apply Exists.intro
        refine ⟨fun w' hS' => ?_, hSw, ?_⟩
        · first | (go_simp <;> with_reducible rfl) | (go_simp; go_bits; with_reducible rfl)
        go_simp
        try go_bits
        refine hK _ _ ?_
        clear hK K
      refine lex_step (fun K hK => ?_)
      simp only [lexOp, List.getElem?_toArray, List.getElem?_cons_succ, List.getElem?_cons_zero]
      rw [if_pos (by rfl)]
      go_step
      refine (refSum32_s _ a2 n2 c2 ((bs.drop f).take n) (HS5.out.below hSw) (by have := List.length_take_le n (bs.drop f); omega)).mono ?_
      rintro e w6 ⟨rfl, rfl⟩
      go_simp
      refine hK _ _ ?_
      clear hK K
      iterate 3
        refine lex_step (fun K hK => ?_)
        simp only [lexOp, List.getElem?_toArray, List.getElem?_cons_succ, List.getElem?_cons_zero]
        rw [if_pos (by rfl)]
        apply Exists.intro
        refine ⟨fun w' hS' => ?_, hSw, ?_⟩
        · first | (go_simp <;> with_reducible rfl) | (go_simp; go_bits; with_reducible rfl)
        go_simp
        try go_bits
        refine hK _ _ ?_
        clear hK K
      refine lex_nil ?_
      go_wp2
      go_ret
      exact ⟨rfl, H5.out.trans (hSw.mono H5.out.size)⟩
  · have HP := Lib.hid hp
    have HQ := Lib.hid (show f < 0 ∨ n < 1 ∨ (len : Int) < f ∨ (len : Int) - f < n by unfold partOk at hp; omega)
    clear hp
    by_cases hj : jobOk f n 0 = true
    · go_enter Try.func4, Try.ntmps4
      go_wp2_with fail
      refine (fixed30_any _).mono ?_
      rintro e w1 ⟨rfl, hb1⟩
      have H1 := Lib.hid hb1
      clear hb1
      go_wp2_with fail
      refine (Serve_no w1 a len cap f n (by omega) HF.out HN.out HP.out).mono ?_
      rintro e w2 ⟨rfl, hb2⟩
      have H2 := Lib.hid (H1.out.trans (hb2.mono H1.out.size))
      clear hb2 H1
      go_wp2_with fail
      refine (New_any _ f n HF.out HN.out).mono ?_
      rw [if_pos hj, if_pos hj]
      rintro e w3 ⟨rfl, hb3⟩
      have hb3' : Below w2.heap.size w2 w3 := ((Below.refl _ _).alloc (Nat.le_refl _) _).trans (hb3.mono (by simp))
      have K7 := Lib.hid (Blk3.below (w1 := w3) (heap_alloc_last w2 (.cells #[.int .i64 0, .slice none 0 0, .int .u32 0] 27)) hb3)
      have H3 := Lib.hid (H2.out.trans (hb3'.mono H2.out.size))
      clear hb3 hb3' H2
      go_wp2_with fail
      refine (refRight_any _ f n none 0 0 HF.out HN.out (by unfold maxLen; omega)).mono ?_
      rw [hj]
      rintro e w4 ⟨rfl, hb4⟩
      have hb4' : Below w3.heap.size w3 w4 := ((Below.refl _ _).alloc (Nat.le_refl _) _).trans (hb4.mono (by simp))
      have K9 := Lib.hid (Blk3.below (w1 := w4) (heap_alloc_last w3 (.cells #[.int .i64 f, .int .i64 n, .slice none 0 0] 24)) hb4)
      have K7b := Lib.hid (K7.out.below hb4')
      have H4 := Lib.hid (H3.out.trans (hb4'.mono H3.out.size))
      clear hb4 hb4' H3 K7
      obtain ⟨p0, p1, p2, f0, f1, f2, lt1⟩ := K9.out.box
      go_wp2_with fail
      refine (refSame_any w4 f n none 0 0 [] f n none 0 0 [] (Sl.nil _ _) (Sl.nil _ _)).mono ?_
      rw [show ((f == f) && ((n == n) && (([] : List UInt8) == []))) = true by simp]
      rintro e w5 ⟨rfl, hb5⟩
      have K7c := Lib.hid (K7b.out.below hb5)
      have H5 := Lib.hid (H4.out.trans (hb5.mono H4.out.size))
      clear hb5 H4 K7b K9 p0 p1 p2 f0 f1 f2 lt1
      obtain ⟨p0, p1, p2, f0, f1, f2, lt1⟩ := K7c.out.box
      have hq := HQ.out
      clear HQ
      by_cases d1 : f < 0
      · go_wp2_with fail
        go_ret
        exact ⟨rfl, H5.out⟩
      by_cases d2 : n < 1
      · go_wp2_with fail
        go_ret
        exact ⟨rfl, H5.out⟩
      by_cases d3 : (len : Int) < f
      · go_wp2_with fail
        go_ret
        exact ⟨rfl, H5.out⟩
      have d4 : (len : Int) - f < n := by omega
      clear hq
      go_wp2_with fail
      go_ret
      exact ⟨rfl, H5.out⟩
    · go_enter Try.func4, Try.ntmps4
      go_wp2_with fail
      refine (fixed30_any _).mono ?_
      rintro e w1 ⟨rfl, hb1⟩
      have H1 := Lib.hid hb1
      clear hb1
      go_wp2_with fail
      refine (Serve_no w1 a len cap f n (by omega) HF.out HN.out HP.out).mono ?_
      rintro e w2 ⟨rfl, hb2⟩
      have H2 := Lib.hid (H1.out.trans (hb2.mono H1.out.size))
      clear hb2 H1
      go_wp2_with fail
      refine (New_any _ f n HF.out HN.out).mono ?_
      rw [if_neg hj, if_neg hj]
      rintro e w3 ⟨rfl, hb3⟩
      have hb3' : Below w2.heap.size w2 w3 := ((Below.refl _ _).alloc (Nat.le_refl _) _).trans (hb3.mono (by simp))
      have K7 := Lib.hid (Blk3.below (w1 := w3) (heap_alloc_last w2 (.cells #[.int .i64 0, .slice none 0 0, .int .u32 0] 27)) hb3)
      have H3 := Lib.hid (H2.out.trans (hb3'.mono H2.out.size))
      clear hb3 hb3' H2
      go_wp2_with fail
      refine (refRight_any _ f n none 0 0 HF.out HN.out (by unfold maxLen; omega)).mono ?_
      rw [Bool.not_eq_true _ |>.mp hj]
      rintro e w4 ⟨rfl, hb4⟩
      have hb4' : Below w3.heap.size w3 w4 := ((Below.refl _ _).alloc (Nat.le_refl _) _).trans (hb4.mono (by simp))
      have K9 := Lib.hid (Blk3.below (w1 := w4) (heap_alloc_last w3 (.cells #[.int .i64 0, .int .i64 0, .slice none 0 0] 24)) hb4)
      have K7b := Lib.hid (K7.out.below hb4')
      have H4 := Lib.hid (H3.out.trans (hb4'.mono H3.out.size))
      clear hb4 hb4' H3 K7
      have K7c := K7b
      have H5 := H4
      obtain ⟨p0, p1, p2, f0, f1, f2, lt1⟩ := K7c.out.box
      have hq := HQ.out
      clear HQ
      by_cases d1 : f < 0
      · go_wp2_with fail
        go_ret
        exact ⟨rfl, H5.out⟩
      by_cases d2 : n < 1
      · go_wp2_with fail
        go_ret
        exact ⟨rfl, H5.out⟩
      by_cases d3 : (len : Int) < f
      · go_wp2_with fail
        go_ret
        exact ⟨rfl, H5.out⟩
      have d4 : (len : Int) - f < n := by omega
      clear hq
      go_wp2_with fail
      go_ret
      exact ⟨rfl, H5.out⟩
end Go.Proofs.Ytikkkmfddhijeaa
