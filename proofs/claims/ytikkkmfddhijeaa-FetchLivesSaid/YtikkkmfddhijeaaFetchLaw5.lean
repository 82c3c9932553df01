/- fetch: the walk of FetchGrows. No condition. -/
import Derived.Test.YtikkkmfddhijeaaFetchLaw
import Derived.Test.YtikkkmfddhijeaaFetchOpen2
namespace Go.Proofs.Ytikkkmfddhijeaa
open Go.ChangeShapes Go.WideShapes Go.ChangeAt Go.RowKit
theorem takes_grows {s c : Int} {n : Nat} {f : Int} {ds : List UInt8} {sum : Int} (h : takesR s c n f ds sum = true) : jobOk s c (n + ds.length) = true ∧ 1 ≤ ds.length := by
  have hd := of_decide_eq_true h
  obtain ⟨h0, _, h2, _⟩ := hd
  by_cases hj : jobOk s c n = true ∧ (n : Int) ≠ s
  · rw [wantR_yes hj] at h0 h2
    simp only at h0 h2
    have hk := of_decide_eq_true hj.1
    obtain ⟨k0, k1, k2, k3, k4⟩ := hk
    have hne := hj.2
    refine ⟨decide_eq_true ⟨k0, k1, k2, k3, ?_⟩, by omega⟩
    rcases k4 with k4 | ⟨k4, k5⟩
    · exact absurd k4 hne
    · by_cases hcs : c ≤ s - n
      · have hl : (ds.length : Int) = c := by omega
        by_cases hee : ((n + ds.length : Nat) : Int) = s
        · exact .inl hee
        · refine .inr ⟨by omega, ?_⟩
          have he : ((n + ds.length : Nat) : Int) = (n : Int) + c := by omega
          rw [he, Int.tmod_eq_emod_of_nonneg (by omega), Int.add_emod_right, ← Int.tmod_eq_emod_of_nonneg (by omega)]
          exact k5
      · exact .inl (by omega)
  · rw [wantR_no hj] at h0
    exact absurd h0 (by decide)
theorem takeL_grows {s c : Int} {n : Nat} {f : Int} {bs ds : List UInt8} {sum : Int} (hb : bs.length = n) (hj : jobOk s c n = true) : jobOk s c (takeL (takesR s c n f ds sum) bs ds).length = true := by
  unfold takeL
  split
  · rename_i h
    rw [List.length_append, hb]; exact (takes_grows h).1
  · rw [hb]; exact hj
set_option maxRecDepth 100000 in
set_option maxHeartbeats 8000000 in
theorem walk_FetchGrows (s c : Int) (a : Option Addr) (n cap : Nat) (w : World) (hs : (Lit.int .i64 s).wf = true) (hc : (Lit.int .i64 c).wf = true) (h0 : IsReplies w a n cap) :
    Calls Try.prog 5 #[.int .i64 s, .int .i64 c, .slice a n cap] w fun e w' => e = .returned (.bool true) ∧ Below w.heap.size w w' := by
  have HS : Hid (IntR s) := bounds_i64 hs
  have HC : Hid (IntR c) := bounds_i64 hc
  have HE := Lib.hid h0
  obtain ⟨hcap, hm, _⟩ := h0
  unfold maxLen at hm
  clear hs hc
  go_enter Try.func5, Try.ntmps5
  go_wp2_with fail
  refine (fixed30_any _).mono ?_
  rintro e w1 ⟨rfl, hb1⟩
  have H1 := Lib.hid hb1
  clear hb1
  go_wp2_with fail
  have h2 := New_any w1 s c HS.out HC.out
  by_cases hj : jobOk s c 0 = true
  · rw [if_pos hj, if_pos hj] at h2
    refine h2.mono ?_
    clear h2
    rintro e w2 ⟨rfl, hb2⟩
    have H2 := Lib.hid (H1.out.trans (hb2.mono H1.out.size))
    have HJ := Lib.hid hj
    clear hb2 H1 hj
    by_cases hn : 40 < n
    · go_wp2_with fail
      go_ret
      exact ⟨rfl, H2.out.alloc H2.out.size _⟩
    have sz2 := H2.out.size
    go_wp2_with fail
    go_loopw [31] (fun i wr => ∃ k : Nat, k ≤ n ∧ i = .int .i64 k ∧ ∃ (aj : Option Addr) (nj cj : Nat) (bs : List UInt8), Hid (jobOk s c nj = true) ∧ Hid (Blk3 wr w2.heap.size (.int .i64 s) (.int .i64 c) (.slice aj nj cj) 24) ∧ Hid (wr.ownsRow (w2.heap.size + 1) 5 1 (.slice aj nj cj) nj (bs.map encB)) ∧ Hid (Below w.heap.size w wr)) (fun i _ => n - (intOf i).toNat)
    case atStart => exact ⟨0, by omega, by go_num, none, 0, 0, [], HJ, heap_alloc_last w2 _, World.ownsRow_nil _ _ _ _, H2.out.alloc H2.out.size _⟩
    case round =>
      obtain ⟨k, hk, rfl, aj, nj, cj, bs, HJ, HK, HO, HW⟩ := hrel
      obtain ⟨p0, p1, p2, f0, f1, f2, lt2⟩ := HK.out.box
      obtain ⟨j0, j1, j2, j3, j4⟩ := jobOk_bounds HJ.out
      by_cases hlt : k < n
      · obtain ⟨b, off, rfl, hbl, hrep⟩ := (HE.out.below HW.out).2.2 (by omega)
        obtain ⟨f, x, m, cm, sum, ds, q0, q1, q2, hds, hmc, hmm⟩ := hrep k hlt
        have HD := Lib.hid hds
        have hdl := hds.1
        clear hrep hds
        by_cases hm1 : 1100 < m
        · go_wp2_with fail
          go_ret
          exact ⟨rfl, HW.out.alloc HW.out.size _⟩
        have hbl' := (Sl.ofOwnS HO.out).1.1
        have hT := Take_any (wr.alloc (.cells #[.int .i64 f, .slice x m cm, .int .u32 sum] 27)) s c aj nj cj bs f sum x m cm ds HS.out HC.out (by omega) ((Sl.ofOwnS HO.out).1.below ((Below.refl _ _).alloc (Nat.le_refl _) _)) (HD.out.below ((Below.refl _ _).alloc (Nat.le_refl _) _)) (by omega)
        have hg := takeL_grows (f := f) (ds := ds) (sum := sum) hbl' HJ.out
        have hg2 : takesR s c nj f ds sum = true → 1 ≤ ds.length := fun h => (takes_grows h).2
        generalize takesR s c nj f ds sum = T at hT hg hg2
        have HT := Lib.hid hT
        clear hT
        go_wp2_with fail
        refine HT.out.mono ?_
        rintro e w5 ⟨a5, n5, c5, rfl, hown5, hb5⟩
        obtain ⟨hsl5, hc5⟩ := Sl.ofOwnS hown5
        have hn5 := hsl5.1
        rw [hn5] at hg
        have hb5' : Below wr.heap.size wr w5 := ((Below.refl _ _).alloc (Nat.le_refl _) _).trans (hb5.mono (by simp))
        have HK5 := Lib.hid (HK.out.below hb5')
        have K10 := Lib.hid (Blk3.below (w1 := w5) (heap_alloc_last wr (.cells #[.int .i64 f, .slice x m cm, .int .u32 sum] 27)) hb5)
        have H5 := Lib.hid (HW.out.trans (hb5'.mono HW.out.size))
        have HX := Lib.hid hsl5
        have HB5 := Lib.hid ((Sl.ofOwnS HO.out).1.below hb5')
        have HD5 := Lib.hid (HD.out.below hb5')
        rw [show (wr.alloc (.cells #[.int .i64 f, .slice x m cm, .int .u32 sum] 27)).heap.size = wr.heap.size + 1 by simp] at hown5
        have HO5 := Lib.hid hown5
        have HG := Lib.hid hg
        have szr := HK.out.box.lt
        clear hb5 hb5' hsl5 hown5 hg p0 p1 p2 f0 f1 f2 lt2 HT HK HW HD q0 q1 q2
        obtain ⟨p0, p1, p2, f0, f1, f2, lt2⟩ := HK5.out.box
        cases T with
        | true =>
          have hg3 := hg2 rfl
          obtain rfl : n5 = nj + m := by have h := hn5; unfold takeL at h; rw [if_pos rfl, List.length_append] at h; omega
          have e0 : 0 < m := by omega
          have e0' : (0 : Int) < (m : Int) := by omega
          have e1 := decide_eq_false (show ¬ nj + m < nj by omega)
          have e2 := decide_eq_true (show nj < nj + m by omega)
          have e1' := decide_eq_false (show ¬ (nj : Int) + (m : Int) < (nj : Int) by omega)
          have e2' := decide_eq_true (show (nj : Int) < (nj : Int) + (m : Int) by omega)
          have g1 : (nj : Int) ≤ (c5 : Int) := by omega
          have g2 : (nj : Int) ≤ (nj : Int) + (m : Int) := by omega
          have g3 : ¬ c5 = nj := by omega
          obtain ⟨g, rfl, hg0, hg1⟩ := own_addr HO5.out (by omega)

          go_wp2_with fail
          have W6 := Lib.hid (show Blk3 (w5.alloc (.cells #[.int .i64 s, .int .i64 c, .slice (some ⟨g, 0, none⟩) (nj + m) c5] 24)) w5.heap.size (.int .i64 s) (.int .i64 c) (.slice (some ⟨g, 0, none⟩) (nj + m) c5) 24 from heap_alloc_last w5 _)
          have hb6 : Below w5.heap.size w5 (w5.alloc (.cells #[.int .i64 s, .int .i64 c, .slice (some ⟨g, 0, none⟩) (nj + m) c5] 24)) := (Below.refl _ _).alloc (Nat.le_refl _) _
          have HK6 := Lib.hid (HK5.out.below hb6)
          have K106 := Lib.hid (K10.out.below hb6)
          have H6 := Lib.hid (H5.out.trans (hb6.mono H5.out.size))
          have HX6 := Lib.hid (HX.out.below hb6)
          have HB6 := Lib.hid (HB5.out.below hb6)
          have HD6 := Lib.hid (HD5.out.below hb6)
          have HO6 := Lib.hid (own_below HO5.out hb6)
          clear hb6 HK5 K10 H5 HX HB5 HD5 HO5 p0 p1 p2 f0 f1 f2 lt2
          generalize w5.alloc (.cells #[.int .i64 s, .int .i64 c, .slice (some ⟨g, 0, none⟩) (nj + m) c5] 24) = W at *
          have lda : ∀ w', Below W.heap.size W w' → w'.cell? ⟨w2.heap.size, 0, none⟩ = some (.int .i64 s) := fun w' h => (HK6.out.below h).box.c0
          have ldb : ∀ w', Below W.heap.size W w' → w'.cell? ⟨w2.heap.size, 1, none⟩ = some (.int .i64 c) := fun w' h => (HK6.out.below h).box.c1
          have ldc : ∀ w', Below W.heap.size W w' → w'.cell? ⟨w2.heap.size, 2, none⟩ = some (.slice aj nj cj) := fun w' h => (HK6.out.below h).box.c2
          have ldd : ∀ w', Below W.heap.size W w' → w'.cell? ⟨w5.heap.size, 0, none⟩ = some (.int .i64 s) := fun w' h => (W6.out.below h).box.c0
          have lde : ∀ w', Below W.heap.size W w' → w'.cell? ⟨w5.heap.size, 1, none⟩ = some (.int .i64 c) := fun w' h => (W6.out.below h).box.c1
          have ldf : ∀ w', Below W.heap.size W w' → w'.cell? ⟨w5.heap.size, 2, none⟩ = some (.slice (some ⟨g, 0, none⟩) (nj + m) c5) := fun w' h => (W6.out.below h).box.c2
          have ldg : ∀ w', Below W.heap.size W w' → w'.cell? ⟨wr.heap.size, 1, none⟩ = some (.slice x m cm) := fun w' h => (K106.out.below h).box.c1
          have cv1 : ∀ w', Below W.heap.size W w' → (convert 22 9 (.slice aj nj cj)).run Try.prog w' = .ok (.string ⟨bs.toArray⟩) w' := fun w' h => run_conv (HB6.out.below h) cj
          have hxs : takeL true bs ds = bs ++ ds := rfl
          have cv2 : ∀ w', Below W.heap.size W w' → (convert 22 9 (.slice (some ⟨g, 0, none⟩) nj c5)).run Try.prog w' = .ok (.string ⟨bs.toArray⟩) w' := fun w' h => by
            have h1 := (HX6.out.below h).take (j := nj) (by omega)
            rw [hxs, List.take_left' hbl'] at h1
            exact run_conv h1 c5
          have cv3 : ∀ w', Below W.heap.size W w' → (convert 22 9 (.slice (some ⟨g, nj, none⟩) m (c5 - nj))).run Try.prog w' = .ok (.string ⟨ds.toArray⟩) w' := fun w' h => by
            obtain ⟨b', o', e', h1⟩ := (HX6.out.below h).drop (j := nj) (by omega)
            simp only [Option.some.injEq, Addr.mk.injEq, and_true] at e'
            obtain ⟨rfl, rfl⟩ := e'
            rw [hxs, List.drop_left' hbl', Nat.zero_add, Nat.add_sub_cancel_left] at h1
            exact run_conv h1 (c5 - nj)
          have cv4 : ∀ w', Below W.heap.size W w' → (convert 22 9 (.slice x m cm)).run Try.prog w' = .ok (.string ⟨ds.toArray⟩) w' := fun w' h => run_conv (HD6.out.below h) cm
          clear hxs
          have hC := Check_any W.drew s c (some ⟨g, 0, none⟩) (nj + m) c5 HS.out HC.out (by unfold maxLen; omega)
          rw [if_pos HG.out] at hC
          have HCk := Lib.hid hC
          clear hC
          have hSw : Below W.heap.size W W.drew := (Below.refl _ _).drew
          refine wp_region_lex (Below W.heap.size W) [(0, true), (1, false), (2, true), (3, true), (4, true), (5, true), (6, true), (7, true), (8, true), (9, true), (10, true), (11, true), (12, true), (13, true), (14, true), (15, true), (16, true), (17, true), (18, true), (19, true), (20, true), (21, true), (22, true), (23, true), (24, true), (25, true), (26, true), (27, true), (28, true), (29, true), (30, true), (31, true), (32, true), (33, true), (34, true), (35, true), (36, true), (37, true), (38, true), (39, true), (40, true), (41, true), (42, true), (43, true)] (by kernel_rfl) (by kernel_rfl) (fun c a d v w h => by cases d <;> exact h) ?_
          iterate 1
            refine lex_step (fun K hK => ?_)
            simp only [lexOp, List.getElem?_toArray, List.getElem?_cons_succ, List.getElem?_cons_zero]
            rw [if_pos (by rfl)]
            apply Exists.intro
            refine ⟨fun w' hS' => ?_, hSw, ?_⟩
            · first | (go_simp <;> with_reducible rfl) | (go_simp; go_bits; with_reducible rfl)
            go_simp
            try go_bits
            refine hK _ _ ?_
            clear hK K
          refine lex_step (fun K hK => ?_)
          simp only [lexOp, List.getElem?_toArray, List.getElem?_cons_succ, List.getElem?_cons_zero]
          rw [if_pos (by rfl)]
          go_step
          refine HCk.out.mono ?_
          rintro e w7 ⟨rfl, hb7⟩
          replace hSw : Below W.heap.size W w7 := hSw.trans (hb7.mono (by simp))
          clear hb7
          go_simp
          refine hK _ _ ?_
          clear hK K
          iterate 42
            refine lex_step (fun K hK => ?_)
            simp only [lexOp, List.getElem?_toArray, List.getElem?_cons_succ, List.getElem?_cons_zero]
            rw [if_pos (by rfl)]
            apply Exists.intro
            refine ⟨fun w' hS' => ?_, hSw, ?_⟩
            · first | (go_simp <;> with_reducible rfl) | (go_simp; go_bits; with_reducible rfl)
            go_simp
            try go_bits
            refine hK _ _ ?_
            clear hK K
          refine lex_nil ?_
          have HK7 := Lib.hid (HK6.out.below hSw)
          have W7 := Lib.hid (W6.out.below hSw)
          have H7 := Lib.hid (H6.out.trans (hSw.mono H6.out.size))
          have HO7 := Lib.hid (own_below HO6.out hSw)
          clear lda ldb ldc ldd lde ldf ldg cv1 cv2 hSw HK6 W6 K106 H6 HX6 HB6 HD6 HO6 HCk cv3 cv4
          obtain ⟨p0, p1, p2, f0, f1, f2, lt2⟩ := HK7.out.box
          obtain ⟨p3, p4, p5, f3, f4, f5, lt3⟩ := W7.out.box
          go_wp2_with fail
          go_roundw
          case rel => exact ⟨k + 1, by omega, by go_num, some ⟨g, 0, none⟩, nj + m, c5, _, HG, HK7.out.set, own_keep3 (own_mono HO7.out (by omega)) (by omega) _ _ _, H7.out.trans ((keep33 _ _ _ _ _).mono sz2)⟩
          case measure => simp [intOf]; omega
        | false =>
          obtain rfl : nj = n5 := by have h := hn5; unfold takeL at h; rw [if_neg (by simp)] at h; omega
          have e1 := decide_eq_false (show ¬ nj < nj by omega)
          have e1' := decide_eq_false (show ¬ (nj : Int) < (nj : Int) by omega)
          have g1 : (nj : Int) ≤ (c5 : Int) := by omega
          have g2 : (0 : Int) ≤ (nj : Int) := by omega

          go_wp2_with fail
          have W6 := Lib.hid (show Blk3 (w5.alloc (.cells #[.int .i64 s, .int .i64 c, .slice a5 nj c5] 24)) w5.heap.size (.int .i64 s) (.int .i64 c) (.slice a5 nj c5) 24 from heap_alloc_last w5 _)
          have hb6 : Below w5.heap.size w5 (w5.alloc (.cells #[.int .i64 s, .int .i64 c, .slice a5 nj c5] 24)) := (Below.refl _ _).alloc (Nat.le_refl _) _
          have HK6 := Lib.hid (HK5.out.below hb6)
          have K106 := Lib.hid (K10.out.below hb6)
          have H6 := Lib.hid (H5.out.trans (hb6.mono H5.out.size))
          have HX6 := Lib.hid (HX.out.below hb6)
          have HB6 := Lib.hid (HB5.out.below hb6)
          have HD6 := Lib.hid (HD5.out.below hb6)
          have HO6 := Lib.hid (own_below HO5.out hb6)
          clear hb6 HK5 K10 H5 HX HB5 HD5 HO5 p0 p1 p2 f0 f1 f2 lt2
          generalize w5.alloc (.cells #[.int .i64 s, .int .i64 c, .slice a5 nj c5] 24) = W at *
          have lda : ∀ w', Below W.heap.size W w' → w'.cell? ⟨w2.heap.size, 0, none⟩ = some (.int .i64 s) := fun w' h => (HK6.out.below h).box.c0
          have ldb : ∀ w', Below W.heap.size W w' → w'.cell? ⟨w2.heap.size, 1, none⟩ = some (.int .i64 c) := fun w' h => (HK6.out.below h).box.c1
          have ldc : ∀ w', Below W.heap.size W w' → w'.cell? ⟨w2.heap.size, 2, none⟩ = some (.slice aj nj cj) := fun w' h => (HK6.out.below h).box.c2
          have ldd : ∀ w', Below W.heap.size W w' → w'.cell? ⟨w5.heap.size, 0, none⟩ = some (.int .i64 s) := fun w' h => (W6.out.below h).box.c0
          have lde : ∀ w', Below W.heap.size W w' → w'.cell? ⟨w5.heap.size, 1, none⟩ = some (.int .i64 c) := fun w' h => (W6.out.below h).box.c1
          have ldf : ∀ w', Below W.heap.size W w' → w'.cell? ⟨w5.heap.size, 2, none⟩ = some (.slice a5 nj c5) := fun w' h => (W6.out.below h).box.c2
          have ldg : ∀ w', Below W.heap.size W w' → w'.cell? ⟨wr.heap.size, 1, none⟩ = some (.slice x m cm) := fun w' h => (K106.out.below h).box.c1
          have cv1 : ∀ w', Below W.heap.size W w' → (convert 22 9 (.slice aj nj cj)).run Try.prog w' = .ok (.string ⟨bs.toArray⟩) w' := fun w' h => run_conv (HB6.out.below h) cj
          have hxs : takeL false bs ds = bs := rfl
          have cv2 : ∀ w', Below W.heap.size W w' → (convert 22 9 (.slice a5 nj c5)).run Try.prog w' = .ok (.string ⟨bs.toArray⟩) w' := fun w' h => run_conv (hxs ▸ HX6.out.below h) c5
          clear hxs
          have hC := Check_any W.drew s c a5 nj c5 HS.out HC.out (by unfold maxLen; omega)
          rw [if_pos HG.out] at hC
          have HCk := Lib.hid hC
          clear hC
          have hSw : Below W.heap.size W W.drew := (Below.refl _ _).drew
          refine wp_region_lex (Below W.heap.size W) [(0, true), (1, false), (2, true), (3, true), (4, true), (5, true), (6, true), (7, true), (8, true), (9, true), (10, true), (11, true), (12, true), (13, true), (14, true), (15, true), (16, true), (17, true), (18, true), (19, true), (20, true), (21, true), (22, true), (23, true), (24, true), (25, true), (26, true), (27, true), (28, true), (29, true), (30, true), (31, true), (32, true), (33, true), (34, true), (35, true), (36, true), (37, true), (38, true), (39, true), (40, true), (41, true), (42, true), (43, true)] (by kernel_rfl) (by kernel_rfl) (fun c a d v w h => by cases d <;> exact h) ?_
          iterate 1
            refine lex_step (fun K hK => ?_)
            simp only [lexOp, List.getElem?_toArray, List.getElem?_cons_succ, List.getElem?_cons_zero]
            rw [if_pos (by rfl)]
            apply Exists.intro
            refine ⟨fun w' hS' => ?_, hSw, ?_⟩
            · first | (go_simp <;> with_reducible rfl) | (go_simp; go_bits; with_reducible rfl)
            go_simp
            try go_bits
            refine hK _ _ ?_
            clear hK K
          refine lex_step (fun K hK => ?_)
          simp only [lexOp, List.getElem?_toArray, List.getElem?_cons_succ, List.getElem?_cons_zero]
          rw [if_pos (by rfl)]
          go_step
          refine HCk.out.mono ?_
          rintro e w7 ⟨rfl, hb7⟩
          replace hSw : Below W.heap.size W w7 := hSw.trans (hb7.mono (by simp))
          clear hb7
          go_simp
          refine hK _ _ ?_
          clear hK K
          iterate 31
            refine lex_step (fun K hK => ?_)
            simp only [lexOp, List.getElem?_toArray, List.getElem?_cons_succ, List.getElem?_cons_zero]
            rw [if_pos (by rfl)]
            apply Exists.intro
            refine ⟨fun w' hS' => ?_, hSw, ?_⟩
            · first | (go_simp <;> with_reducible rfl) | (go_simp; go_bits; with_reducible rfl)
            go_simp
            try go_bits
            refine hK _ _ ?_
            clear hK K
          iterate 9
            refine lex_step (fun K hK => ?_)
            simp only [lexOp, List.getElem?_toArray, List.getElem?_cons_succ, List.getElem?_cons_zero]
            rw [if_neg (Bool.eq_false_iff.1 (by rfl))]
            refine ⟨hSw, ?_⟩
            go_simp
            refine hK _ _ ?_
            clear hK K
          iterate 2
            refine lex_step (fun K hK => ?_)
            simp only [lexOp, List.getElem?_toArray, List.getElem?_cons_succ, List.getElem?_cons_zero]
            rw [if_pos (by rfl)]
            apply Exists.intro
            refine ⟨fun w' hS' => ?_, hSw, ?_⟩
            · first | (go_simp <;> with_reducible rfl) | (go_simp; go_bits; with_reducible rfl)
            go_simp
            try go_bits
            refine hK _ _ ?_
            clear hK K
          refine lex_nil ?_
          have HK7 := Lib.hid (HK6.out.below hSw)
          have W7 := Lib.hid (W6.out.below hSw)
          have H7 := Lib.hid (H6.out.trans (hSw.mono H6.out.size))
          have HO7 := Lib.hid (own_below HO6.out hSw)
          clear lda ldb ldc ldd lde ldf ldg cv1 cv2 hSw HK6 W6 K106 H6 HX6 HB6 HD6 HO6 HCk 
          obtain ⟨p0, p1, p2, f0, f1, f2, lt2⟩ := HK7.out.box
          obtain ⟨p3, p4, p5, f3, f4, f5, lt3⟩ := W7.out.box
          go_wp2_with fail
          go_roundw
          case rel => exact ⟨k + 1, by omega, by go_num, a5, nj, c5, _, HG, HK7.out.set, own_keep3 (own_mono HO7.out (by omega)) (by omega) _ _ _, H7.out.trans ((keep33 _ _ _ _ _).mono sz2)⟩
          case measure => simp [intOf]; omega
      · obtain rfl : k = n := by omega
        have hle := decide_eq_true (show (nj : Int) ≤ s by omega)
        go_wp2_with fail
        go_ret
        exact ⟨rfl, HW.out⟩
  · rw [if_neg hj, if_neg hj] at h2
    refine h2.mono ?_
    clear h2
    rintro e w2 ⟨rfl, hb2⟩
    have H2 := Lib.hid (H1.out.trans (hb2.mono H1.out.size))
    clear hb2 H1 hj
    go_wp2_with fail
    go_ret
    exact ⟨rfl, H2.out.alloc H2.out.size _⟩
end Go.Proofs.Ytikkkmfddhijeaa
