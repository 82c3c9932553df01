/- fetch: the walk of FetchTakes. No condition. -/
import Derived.Test.YtikkkmfddhijeaaFetchLaw
import Derived.Test.YtikkkmfddhijeaaFlip
import Derived.Test.YtikkkmfddhijeaaFetchOpen
namespace Go.Proofs.Ytikkkmfddhijeaa
open Go.ChangeShapes Go.WideShapes Go.ChangeAt Go.RowKit
theorem job_eq (T : Bool) : (T == T) = true := by cases T <;> rfl
set_option maxRecDepth 100000 in
set_option maxHeartbeats 8000000 in
theorem walk_FetchTakes (s c : Int) (a : Option Addr) (n cap : Nat) (z : List Int) (f : Int) (b : Option Addr) (m capm : Nat) (z2 : List Int) (sum : Int) (w : World) (hs : (Lit.int .i64 s).wf = true) (hc : (Lit.int .i64 c).wf = true) (h0 : IsRow .u8 w a n cap z)
    (hf : (Lit.int .i64 f).wf = true) (h1 : IsRow .u8 w b m capm z2) (hsum : (Lit.int .u32 sum).wf = true) :
    Calls Try.prog 3 #[jobV s c a n cap, replyV f b m capm sum] w fun e w' => e = .returned (.bool true) ∧ Below w.heap.size w w' := by
  have hcap := Row.cap h0
  have hcapm := Row.cap h1
  obtain ⟨bs, hB, hn⟩ := Bs.ofRow h0
  obtain ⟨ds, hD, hm⟩ := Bs.ofRow h1
  have HN : Hid (n ≤ maxLen) := hn
  have HS : Hid (IntR s) := bounds_i64 hs
  have HC : Hid (IntR c) := bounds_i64 hc
  have HE := Lib.hid hB.sl
  have HD := Lib.hid hD.sl
  clear h0 h1 hs hc hf hsum hB hD
  unfold maxLen at hn hm
  go_enter Try.func3, Try.ntmps3
  go_wp2_with fail
  refine (fixed30_any _).mono ?_
  rintro e w1 ⟨rfl, hb1⟩
  have K2 := Lib.hid (Blk3.below (w1 := w1) (two_first w (.cells #[.int .i64 s, .int .i64 c, .slice a n cap] 24) (.cells #[.int .i64 f, .slice b m capm, .int .u32 sum] 27)) hb1)
  have K3 := Lib.hid (Blk3.below (w1 := w1) (two_last w (.cells #[.int .i64 s, .int .i64 c, .slice a n cap] 24) (.cells #[.int .i64 f, .slice b m capm, .int .u32 sum] 27)) hb1)
  have H1 := Lib.hid ((((Below.refl w.heap.size w).alloc (Nat.le_refl _) _).alloc (by simp) _).trans (hb1.mono (by simp; omega)))
  clear hb1
  obtain ⟨p0, p1, p2, f0, f1, f2, lt2⟩ := K2.out.box
  obtain ⟨p3, p4, p5, f3, f4, f5, lt3⟩ := K3.out.box
  by_cases c1 : 2000 < n
  · go_wp2_with fail
    go_ret
    exact ⟨rfl, H1.out⟩
  by_cases c2 : 2000 < m
  · go_wp2_with fail
    go_ret
    exact ⟨rfl, H1.out⟩
  have HO0 := Lib.hid (own_empty w1 w1.heap.size 5 (Nat.le_refl _))
  have HB0 := Lib.hid ((Below.refl w1.heap.size w1).alloc (Nat.le_refl _) (.cells #[] 5))
  go_wp2_with (at_builtin; refine wpList_app1 oneB rfl _ _ _ rfl w1.heap.size _ _ _ rfl HO0.out _ _ _ rfl ((HE.out.below (H1.out.trans (HB0.out.mono H1.out.size))).src encB_cell Try.underlying22 _) (by omega) (by unfold maxLen; omega) HB0.out.size ?_; intro v2 w2 hown2 hg2 hb2; rw [List.map_nil, List.nil_append, Nat.zero_add] at hown2; obtain ⟨a2, c2', hv2, hsl2, hc2'⟩ := Sl.ofOwn hown2; subst hv2; have HO2 := Lib.hid hsl2; have hB2 := HB0.out.trans hb2; have H2 := Lib.hid (H1.out.trans (hB2.mono H1.out.size)); have K2b := Lib.hid (K2.out.below hB2); have K3b := Lib.hid (K3.out.below hB2); clear hown2 hg2 hb2 hsl2 hB2; obtain ⟨p0, p1, p2, f0, f1, f2, lt2⟩ := K2b.out.box)
  refine (Want_any w2 s c a n cap HS.out HC.out HN.out).mono ?_
  rintro e w3 ⟨rfl, hb3⟩
  have H3 := Lib.hid (H2.out.trans (hb3.mono H2.out.size))
  have K2c := Lib.hid (K2b.out.below hb3)
  have K3c := Lib.hid (K3b.out.below hb3)
  have HO3 := Lib.hid (HO2.out.below hb3)
  clear hb3 H1 H2 K2 K3 K2b K3b HO0 HB0 HO2 p0 p1 p2 f0 f1 f2 lt2 p3 p4 p5 f3 f4 f5 lt3
  obtain ⟨b1, b2, b3, b4⟩ := wantR_bounds s c n
  have hW := fun w' => refWant_any w' s c a n cap HS.out HC.out HN.out
  generalize (wantR s c n).1 = p at b3 b4 hW ⊢
  generalize (wantR s c n).2 = q at b1 b2 hW ⊢
  obtain ⟨p0, p1, p2, f0, f1, f2, lt2⟩ := K2c.out.box
  go_wp2_with fail
  refine (hW w3).mono ?_
  rintro e w4 ⟨rfl, hb4⟩
  have H4 := Lib.hid (H3.out.trans (hb4.mono H3.out.size))
  have K2d := Lib.hid (K2c.out.below hb4)
  have K3d := Lib.hid (K3c.out.below hb4)
  have HO4 := Lib.hid (HO3.out.below hb4)
  clear hb4 H3 K2c K3c HO3 hW p0 p1 p2 f0 f1 f2 lt2
  obtain ⟨p0, p1, p2, f0, f1, f2, lt2⟩ := K2d.out.box
  obtain ⟨p3, p4, p5, f3, f4, f5, lt3⟩ := K3d.out.box
  go_wp2_with fail
  have hT := Take_any w4 s c a n cap bs f sum b m capm ds HS.out HC.out (by omega) (HE.out.below H4.out) (HD.out.below H4.out) (by omega)
  have hR := fun w' (hb : Below w4.heap.size w4 w') => refTake_any w' s c a n cap bs f sum b m capm ds HS.out HC.out (by omega) hcap (HE.out.below (H4.out.trans (hb.mono H4.out.size))) (HD.out.below (H4.out.trans (hb.mono H4.out.size))) (by omega)
  have hR2 := fun w' (hb : Below w4.heap.size w4 w') => refTakes_any w' s c a n cap f sum b m capm ds HS.out HC.out HN.out (HD.out.below (H4.out.trans (hb.mono H4.out.size))) (by omega)
  have hlx : (takeL (takesR s c n f ds sum) bs ds).length ≤ n + m := by
    have e1 := HE.out.1
    have e2 := HD.out.1
    unfold takeL
    split
    · rw [List.length_append]; omega
    · omega
  generalize takesR s c n f ds sum = T at hT hR hR2 hlx
  generalize takeL T bs ds = xs at hT hR hlx
  refine hT.mono ?_
  clear hT
  rintro e w5 ⟨a5, n5, c5, rfl, hown5, hb5⟩
  have HR := Lib.hid hR
  have HR2 := Lib.hid hR2
  clear hR hR2
  have hn5 : xs.length = n5 := by have := hown5.1; simpa using this
  have HO5 := Lib.hid hown5
  have HB5 := Lib.hid hb5
  clear hown5 hb5 p0 p1 p2 f0 f1 f2 lt2 p3 p4 p5 f3 f4 f5 lt3
  go_wp2_with fail
  go_loopw [50] (fun i wr => ∃ k : Nat, k ≤ n5 ∧ i = .int .i64 k ∧ Hid (wr.ownsRow w4.heap.size 5 1 (.slice a5 n5 c5) n5 ((flipTo xs k).map encB)) ∧ Hid (Below w4.heap.size w4 wr) ∧ Hid (Blk3 wr w5.heap.size (.int .i64 s) (.int .i64 c) (.slice a5 n5 c5) 24)) (fun i _ => n5 - (intOf i).toNat)
  case atStart => exact ⟨0, by omega, by go_num, by rw [flipTo_0]; exact HO5.out.alloc _, HB5.out.alloc HB5.out.size _, heap_alloc_last w5 _⟩
  case round =>
    obtain ⟨k, hk, rfl, HO, HW, HK⟩ := hrel
    obtain ⟨p0, p1, p2, f0, f1, f2, lt2⟩ := HK.out.box
    by_cases hlt : k < n5
    · obtain ⟨g, rfl, hg0, hg1⟩ := own_addr HO5.out (by omega)
      have hlx : xs.length = n5 := by have := HO.out.1; simpa [flipTo_length] using this
      have hcell := own_cellB HO.out k (by rw [flipTo_length]; omega)
      rw [flipTo_get xs k (by omega)] at hcell
      have hfr := HO.out.frozenAt k
      have HX := Lib.hid (flipTo_set xs k (by omega))
      generalize xs[k] = x at hcell HX
      have hu := u8_lt x
      have hne : w5.heap.size ≠ g := by omega
      clear hlx
      go_wp2_with fail
      go_roundw
      case rel =>
        rw [flip1_bits]
        have hst := HO.out.stored k (encB (flip1 x))
        refine ⟨k + 1, by omega, by go_num, ?_, HW.out.setCell hg0 _, HK.out.other hne⟩
        show World.ownsRow _ _ _ _ _ _ _
        rw [← HX.out, List.map_set]
        exact hst.1
      case measure => simp [intOf]; omega
    · obtain rfl : n5 = k := by omega
      have hend := HO.out
      rw [flipTo_all xs n5 (by omega)] at hend
      have HO6 := Lib.hid hend
      have q1 := run_conv (HE.out.below (H4.out.trans (HW.out.mono H4.out.size))) cap
      have q2 := run_conv (HO4.out.below HW.out) c2'
      have K2e := Lib.hid (K2d.out.below HW.out)
      obtain ⟨p3, p4, p5, f3, f4, f5, lt3⟩ := K2e.out.box
      clear HO hend
      go_wp2_with fail
      have HF := Lib.hid (flip_flip xs)
      have hyl : (xs.map flip1).length = n5 := by rw [List.length_map]; omega
      generalize xs.map flip1 = ys at HO6 HF hyl
      clear q1 q2 p0 p1 p2 f0 f1 f2 lt2 p3 p4 p5 f3 f4 f5 lt3 K2e
      go_loopw [70] (fun i wr => ∃ k : Nat, k ≤ n5 ∧ i = .int .i64 k ∧ Hid (wr.ownsRow w4.heap.size 5 1 (.slice a5 n5 c5) n5 ((flipTo ys k).map encB)) ∧ Hid (Below w4.heap.size w4 wr) ∧ Hid (Blk3 wr w5.heap.size (.int .i64 s) (.int .i64 c) (.slice a5 n5 c5) 24)) (fun i _ => n5 - (intOf i).toNat)
      case atStart => exact ⟨0, by omega, by go_num, by rw [flipTo_0]; exact HO6.out, HW, HK⟩
      case round =>
        obtain ⟨k, hk, rfl, HO, HW, HK⟩ := hrel
        obtain ⟨p0, p1, p2, f0, f1, f2, lt2⟩ := HK.out.box
        by_cases hlt : k < n5
        · obtain ⟨g, rfl, hg0, hg1⟩ := own_addr HO5.out (by omega)
          have hlx : ys.length = n5 := by have := HO.out.1; simpa [flipTo_length] using this
          have hcell := own_cellB HO.out k (by rw [flipTo_length]; omega)
          rw [flipTo_get ys k (by omega)] at hcell
          have hfr := HO.out.frozenAt k
          have HX := Lib.hid (flipTo_set ys k (by omega))
          generalize ys[k] = x at hcell HX
          have hu := u8_lt x
          have hne : w5.heap.size ≠ g := by omega
          clear hlx
          go_wp2_with fail
          go_roundw
          case rel =>
            rw [flip1_bits]
            have hst := HO.out.stored k (encB (flip1 x))
            refine ⟨k + 1, by omega, by go_num, ?_, HW.out.setCell hg0 _, HK.out.other hne⟩
            show World.ownsRow _ _ _ _ _ _ _
            rw [← HX.out, List.map_set]
            exact hst.1
          case measure => simp [intOf]; omega
        · obtain rfl : n5 = k := by omega
          have hend := HO.out
          rw [flipTo_all ys n5 (by omega), HF.out] at hend
          have HX := Lib.hid (Sl.ofOwnS hend).1
          clear HO hend HO6 HF hyl
          have K2e := Lib.hid (K2d.out.below HW.out)
          have K3e := Lib.hid (K3d.out.below HW.out)
          obtain ⟨E, hE⟩ : ∃ E : Int, E = (if jobOk s c n = true then 0 else 1) := ⟨_, rfl⟩
          have hEJ : (E == 0) = jobOk s c n := by rw [hE]; cases jobOk s c n <;> rfl
          have hC := fun w' => Check_any w' s c a n cap HS.out HC.out HN.out
          have hRi := fun w' => refRight_any w' s c a n cap HS.out HC.out HN.out
          have hCh := fun w' => Chunks_any w' s c a n cap HS.out HC.out HN.out
          have hRC := fun w' => refChunks_any w' s c a n cap HS.out HC.out HN.out
          rw [← hE] at hC
          clear hE
          generalize jobOk s c n = J at hEJ hRi
          generalize chunksR s c n = R at hCh hRC
          have QC := Lib.hid hC
          have QRi := Lib.hid hRi
          have QCh := Lib.hid hCh
          have QRC := Lib.hid hRC
          clear hC hRi hCh hRC
          go_wp2_with fail
          have ld0 : ∀ w', Below wr.heap.size wr w' → w'.cell? ⟨w.heap.size, 0, none⟩ = some (.int .i64 s) := fun w' h => (K2e.out.below h).box.c0
          have ld1 : ∀ w', Below wr.heap.size wr w' → w'.cell? ⟨w.heap.size, 1, none⟩ = some (.int .i64 c) := fun w' h => (K2e.out.below h).box.c1
          have ld2 : ∀ w', Below wr.heap.size wr w' → w'.cell? ⟨w.heap.size, 2, none⟩ = some (.slice a n cap) := fun w' h => (K2e.out.below h).box.c2
          have ld3 : ∀ w', Below wr.heap.size wr w' → w'.cell? ⟨w.heap.size + 1, 0, none⟩ = some (.int .i64 f) := fun w' h => (K3e.out.below h).box.c0
          have ld4 : ∀ w', Below wr.heap.size wr w' → w'.cell? ⟨w.heap.size + 1, 1, none⟩ = some (.slice b m capm) := fun w' h => (K3e.out.below h).box.c1
          have ld5 : ∀ w', Below wr.heap.size wr w' → w'.cell? ⟨w.heap.size + 1, 2, none⟩ = some (.int .u32 sum) := fun w' h => (K3e.out.below h).box.c2
          have ld6 : ∀ w', Below wr.heap.size wr w' → w'.cell? ⟨w5.heap.size, 0, none⟩ = some (.int .i64 s) := fun w' h => (HK.out.below h).box.c0
          have ld7 : ∀ w', Below wr.heap.size wr w' → w'.cell? ⟨w5.heap.size, 1, none⟩ = some (.int .i64 c) := fun w' h => (HK.out.below h).box.c1
          have ld8 : ∀ w', Below wr.heap.size wr w' → w'.cell? ⟨w5.heap.size, 2, none⟩ = some (.slice a5 n5 c5) := fun w' h => (HK.out.below h).box.c2
          have hSw : Below wr.heap.size wr wr.drew := (Below.refl _ _).drew
          refine wp_region_lex (Below wr.heap.size wr) [(0, true), (1, true), (2, true), (3, true), (4, true), (5, true), (6, true), (7, true), (8, true), (9, true), (10, true), (11, true), (12, true), (13, true), (14, true), (15, false), (16, true), (17, true), (18, true), (19, true), (20, true), (21, true), (22, false), (23, false), (24, true), (25, true), (26, true), (29, true), (27, false), (28, true), (30, false), (31, true), (32, true), (33, true), (34, true), (36, true), (35, false), (37, false), (38, true), (39, true), (40, true)] (by kernel_rfl) (by kernel_rfl) (fun c a d v w h => by cases d <;> exact h) ?_
          iterate 15
            refine lex_step (fun K hK => ?_)
            simp only [lexOp, List.getElem?_toArray, List.getElem?_cons_succ, List.getElem?_cons_zero]
            rw [if_pos (by rfl)]
            apply Exists.intro
            refine ⟨fun w' hS' => ?_, hSw, ?_⟩
            · first | (go_simp <;> with_reducible rfl) | (go_simp; go_bits; with_reducible rfl)
            go_simp
            try go_bits
            refine hK _ _ ?_
            clear hK K
          refine lex_step (fun K hK => ?_)
          simp only [lexOp, List.getElem?_toArray, List.getElem?_cons_succ, List.getElem?_cons_zero]
          rw [if_pos (by rfl)]
          go_step
          refine (HR2.out _ (HW.out.trans (hSw.mono HW.out.size))).mono ?_
          rintro e w6 ⟨rfl, hb6⟩
          replace hSw : Below wr.heap.size wr w6 := hSw.trans (hb6.mono hSw.size)
          clear hb6
          go_simp
          refine hK _ _ ?_
          clear hK K
          iterate 6
            refine lex_step (fun K hK => ?_)
            simp only [lexOp, List.getElem?_toArray, List.getElem?_cons_succ, List.getElem?_cons_zero]
            rw [if_pos (by rfl)]
            apply Exists.intro
            refine ⟨fun w' hS' => ?_, hSw, ?_⟩
            · first | (go_simp <;> with_reducible rfl) | (go_simp; go_bits; with_reducible rfl)
            go_simp
            try go_bits
            refine hK _ _ ?_
            clear hK K
          refine lex_step (fun K hK => ?_)
          simp only [lexOp, List.getElem?_toArray, List.getElem?_cons_succ, List.getElem?_cons_zero]
          rw [if_pos (by rfl)]
          go_step
          refine (HR.out _ (HW.out.trans (hSw.mono HW.out.size))).mono ?_
          rintro e w7 ⟨a7, n7, c7, rfl, hsl7, hc7, hb7⟩
          replace hSw : Below wr.heap.size wr w7 := hSw.trans (hb7.mono hSw.size)
          have HX7 := Lib.hid hsl7
          clear hb7 hsl7
          go_simp
          refine hK _ _ ?_
          clear hK K
          refine lex_step (fun K hK => ?_)
          simp only [lexOp, List.getElem?_toArray, List.getElem?_cons_succ, List.getElem?_cons_zero]
          rw [if_pos (by rfl)]
          go_step
          refine (refSame_any _ s c a5 n5 c5 xs s c a7 n7 c7 xs (HX.out.below hSw) HX7.out).mono ?_
          rw [show (s == s && (c == c && xs == xs)) = true by simp]
          rintro e w8 ⟨rfl, hb8⟩
          replace hSw : Below wr.heap.size wr w8 := hSw.trans (hb8.mono hSw.size)
          clear hb8
          go_simp
          refine hK _ _ ?_
          clear hK K
          iterate 4
            refine lex_step (fun K hK => ?_)
            simp only [lexOp, List.getElem?_toArray, List.getElem?_cons_succ, List.getElem?_cons_zero]
            rw [if_pos (by rfl)]
            apply Exists.intro
            refine ⟨fun w' hS' => ?_, hSw, ?_⟩
            · first | (go_simp <;> with_reducible rfl) | (go_simp; go_bits; with_reducible rfl)
            go_simp
            try go_bits
            refine hK _ _ ?_
            clear hK K
          refine lex_step (fun K hK => ?_)
          simp only [lexOp, List.getElem?_toArray, List.getElem?_cons_succ, List.getElem?_cons_zero]
          rw [if_pos (by rfl)]
          go_step
          refine (QC.out _).mono ?_
          rintro e w9 ⟨rfl, hb9⟩
          replace hSw : Below wr.heap.size wr w9 := hSw.trans (hb9.mono hSw.size)
          clear hb9
          go_simp
          refine hK _ _ ?_
          clear hK K
          iterate 1
            refine lex_step (fun K hK => ?_)
            simp only [lexOp, List.getElem?_toArray, List.getElem?_cons_succ, List.getElem?_cons_zero]
            rw [if_pos (by rfl)]
            apply Exists.intro
            refine ⟨fun w' hS' => ?_, hSw, ?_⟩
            · first | (go_simp <;> with_reducible rfl) | (go_simp; go_bits; with_reducible rfl)
            go_simp
            try go_bits
            refine hK _ _ ?_
            clear hK K
          refine lex_step (fun K hK => ?_)
          simp only [lexOp, List.getElem?_toArray, List.getElem?_cons_succ, List.getElem?_cons_zero]
          rw [if_pos (by rfl)]
          go_step
          refine (QRi.out _).mono ?_
          rintro e w10 ⟨rfl, hb10⟩
          replace hSw : Below wr.heap.size wr w10 := hSw.trans (hb10.mono hSw.size)
          clear hb10
          go_simp
          refine hK _ _ ?_
          clear hK K
          iterate 5
            refine lex_step (fun K hK => ?_)
            simp only [lexOp, List.getElem?_toArray, List.getElem?_cons_succ, List.getElem?_cons_zero]
            rw [if_pos (by rfl)]
            apply Exists.intro
            refine ⟨fun w' hS' => ?_, hSw, ?_⟩
            · first | (go_simp <;> with_reducible rfl) | (go_simp; go_bits; with_reducible rfl)
            go_simp
            try go_bits
            refine hK _ _ ?_
            clear hK K
          refine lex_step (fun K hK => ?_)
          simp only [lexOp, List.getElem?_toArray, List.getElem?_cons_succ, List.getElem?_cons_zero]
          rw [if_pos (by rfl)]
          go_step
          refine (QCh.out _).mono ?_
          rintro e w11 ⟨rfl, hb11⟩
          replace hSw : Below wr.heap.size wr w11 := hSw.trans (hb11.mono hSw.size)
          clear hb11
          go_simp
          refine hK _ _ ?_
          clear hK K
          refine lex_step (fun K hK => ?_)
          simp only [lexOp, List.getElem?_toArray, List.getElem?_cons_succ, List.getElem?_cons_zero]
          rw [if_pos (by rfl)]
          go_step
          refine (QRC.out _).mono ?_
          rintro e w12 ⟨rfl, hb12⟩
          replace hSw : Below wr.heap.size wr w12 := hSw.trans (hb12.mono hSw.size)
          clear hb12
          go_simp
          refine hK _ _ ?_
          clear hK K
          iterate 3
            refine lex_step (fun K hK => ?_)
            simp only [lexOp, List.getElem?_toArray, List.getElem?_cons_succ, List.getElem?_cons_zero]
            rw [if_pos (by rfl)]
            apply Exists.intro
            refine ⟨fun w' hS' => ?_, hSw, ?_⟩
            · first | (go_simp <;> with_reducible rfl) | (go_simp; go_bits; with_reducible rfl)
            go_simp
            try go_bits
            refine hK _ _ ?_
            clear hK K
          refine lex_nil ?_
          go_wp2
          go_ret
          exact ⟨rfl, H4.out.trans ((HW.out.trans (hSw.mono HW.out.size)).mono H4.out.size)⟩
end Go.Proofs.Ytikkkmfddhijeaa
