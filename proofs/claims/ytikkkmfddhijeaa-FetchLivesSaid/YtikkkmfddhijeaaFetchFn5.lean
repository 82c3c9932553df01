/- fetch: Take, and the reference's. No condition. -/
import Derived.Test.YtikkkmfddhijeaaFetchFn4
namespace Go.Proofs.Ytikkkmfddhijeaa
open Go.ChangeShapes Go.WideShapes Go.ChangeAt Go.RowKit
theorem three_0 (w : World) (o1 o2 o3 : Obj) : (((w.alloc o1).alloc o2).alloc o3).heap[w.heap.size]? = some o1 := by
  rw [Below.heap_alloc _ _ _ (by simp; omega)]; exact two_first w o1 o2
theorem three_1 (w : World) (o1 o2 o3 : Obj) : (((w.alloc o1).alloc o2).alloc o3).heap[w.heap.size + 1]? = some o2 := by
  rw [Below.heap_alloc _ _ _ (by simp)]; exact two_last w o1 o2
theorem three_2 (w : World) (o1 o2 o3 : Obj) : (((w.alloc o1).alloc o2).alloc o3).heap[w.heap.size + 1 + 1]? = some o3 := by
  have h := heap_alloc_last ((w.alloc o1).alloc o2) o3
  rwa [show ((w.alloc o1).alloc o2).heap.size = w.heap.size + 1 + 1 by simp] at h
/-- What Take makes of the bytes that a job has. -/
def takeL (T : Bool) (bs ds : List UInt8) : List UInt8 := if T = true then bs ++ ds else bs
/-- What Take returns. -/
def TakeRet (s c : Int) (T : Bool) (xs : List UInt8) (w : World) (e : Ending) (w' : World) : Prop :=
  ∃ a n cap, e = .returned (.tuple #[jobV s c a n cap, .bool T]) ∧ w'.ownsRow w.heap.size 5 1 (.slice a n cap) n (xs.map encB) ∧ Below w.heap.size w w'
theorem Blk3.other {w : World} {g h o : Nat} {x y z v : Value} {t : TypeId} (k : Blk3 w g x y z t) (hne : g ≠ h) : Blk3 (w.setCell ⟨h, o, none⟩ v) g x y z t := by
  unfold Blk3 World.setCell
  have hne' : ¬ h = g := fun e => hne e.symm
  simp [Array.getElem?_modify, hne']
  exact k
theorem Blk3.belowB {w w1 : World} {B g : Nat} {x y z : Value} {t : TypeId} (h : Blk3 w g x y z t) (hb : Below B w w1) (hlt : g < B) : Blk3 w1 g x y z t := by
  unfold Blk3
  rw [hb.block _ hlt]; exact h
theorem own_keep {w : World} {B n : Nat} {e : TypeId} {v : Value} {xs : List Value} (h : w.ownsRow B e 1 v n xs) {g9 g4 : Nat} (h9 : g9 < B) (h4 : g4 < B) (u x y z : Value) :
    ((((w.setCell ⟨g9, 2, none⟩ u).setCell ⟨g4, 0, none⟩ x).setCell ⟨g4, 1, none⟩ y).setCell ⟨g4, 2, none⟩ z).ownsRow B e 1 v n xs :=
  ownsRow_setCell_below (ownsRow_setCell_below (ownsRow_setCell_below (ownsRow_setCell_below h h9 u) h4 x) h4 y) h4 z
theorem Blk3.set2 {w : World} {g : Nat} {x y z z' : Value} {t : TypeId} (h : Blk3 w g x y z t) : Blk3 (w.setCell ⟨g, 2, none⟩ z') g x y z' t := heap_set3 h 2 z'
set_option maxRecDepth 100000 in
set_option maxHeartbeats 4000000 in
theorem Take_all (w : World) (s c : Int) (a : Option Addr) (n cap : Nat) (bs : List UInt8) (f sum : Int) (b : Option Addr) (m capm : Nat) (ds : List UInt8) (hs : IntR s) (hc : IntR c) (hn : n ≤ 1048576) (he : Sl encB w a n bs) (hds : Sl encB w b m ds) :
    Calls Try.prog 11 #[jobV s c a n cap, replyV f b m capm sum] w (TakeRet s c (takesR s c n f ds sum) (takeL (takesR s c n f ds sum) bs ds) w) := by
  have HS := Lib.hid hs
  have HC := Lib.hid hc
  have HN := Lib.hid (show n ≤ maxLen by unfold maxLen; omega)
  have HD := Lib.hid hds
  have HE := Lib.hid he
  have hdl := hds.1
  clear hs hc hds he
  have HT : Hid (takesR s c n f ds sum = decide (0 < (wantR s c n).2 ∧ f = (wantR s c n).1 ∧ (m : Int) = (wantR s c n).2 ∧ sum = S32 ds)) := by show _ = _; rw [← hdl]; rfl
  generalize takesR s c n f ds sum = T at HT ⊢
  obtain ⟨b1, b2, b3, b4⟩ := wantR_bounds s c n
  have hW := fun w' => Want_any w' s c a n cap HS.out HC.out HN.out
  generalize (wantR s c n).1 = p at HT b3 b4 hW
  generalize (wantR s c n).2 = q at HT b1 b2 hW
  go_enter Try.func11, Try.ntmps11
  go_wp2_with fail
  refine (hW _).mono ?_
  rintro e w1 ⟨rfl, hb1⟩
  have K2 := Lib.hid (Blk3.below (w1 := w1) (three_0 w (.cells #[.int .i64 s, .int .i64 c, .slice a n cap] 24) (.cells #[.int .i64 f, .slice b m capm, .int .u32 sum] 27) (.cells #[.int .i64 0, .int .i64 0, .slice none 0 0] 24)) hb1)
  have K3 := Lib.hid (Blk3.below (w1 := w1) (three_1 w (.cells #[.int .i64 s, .int .i64 c, .slice a n cap] 24) (.cells #[.int .i64 f, .slice b m capm, .int .u32 sum] 27) (.cells #[.int .i64 0, .int .i64 0, .slice none 0 0] 24)) hb1)
  have K4 := Lib.hid (Blk3.below (w1 := w1) (three_2 w (.cells #[.int .i64 s, .int .i64 c, .slice a n cap] 24) (.cells #[.int .i64 f, .slice b m capm, .int .u32 sum] 27) (.cells #[.int .i64 0, .int .i64 0, .slice none 0 0] 24)) hb1)
  have HB := Lib.hid (((((Below.refl w.heap.size w).alloc (Nat.le_refl _) _).alloc (by simp) _).alloc (by simp; omega) _).trans (hb1.mono (by simp; omega)))
  clear hb1 hW
  go_wp2_with fail
  have ld0 : ∀ w', Below w1.heap.size w1 w' → w'.cell? ⟨w.heap.size + 1, 0, none⟩ = some (.int .i64 f) := fun w' h => (K3.out.below h).box.c0
  have ld1 : ∀ w', Below w1.heap.size w1 w' → w'.cell? ⟨w.heap.size + 1, 1, none⟩ = some (.slice b m capm) := fun w' h => (K3.out.below h).box.c1
  have ld2 : ∀ w', Below w1.heap.size w1 w' → w'.cell? ⟨w.heap.size + 1, 2, none⟩ = some (.int .u32 sum) := fun w' h => (K3.out.below h).box.c2
  have hSw : Below w1.heap.size w1 w1.drew := (Below.refl _ _).drew
  refine wp_region_lex (Below w1.heap.size w1) [(0, true), (1, true), (2, true), (3, true), (4, true), (5, true), (6, true), (7, true), (8, true), (9, true), (10, true), (11, true), (12, true), (13, true), (14, true), (15, true), (16, true), (17, true), (18, true), (19, true), (20, false), (21, true), (22, true), (23, true)] (by kernel_rfl) (by kernel_rfl) (fun c a d v w h => by cases d <;> exact h) ?_
  clear HS HC HN
  by_cases k1 : 0 < q
  · by_cases k2 : f = p
    · subst k2
      by_cases k3 : (m : Int) = q
      · by_cases k4 : sum = S32 ds
        · obtain rfl : T = true := by rw [HT.out]; simp [k1, k3, k4]
          have e4 : (sum == S32 ds) = true := by simp [k4]
          clear HT k4
          iterate 20
            refine lex_step (fun K hK => ?_)
            simp only [lexOp, List.getElem?_toArray, List.getElem?_cons_succ, List.getElem?_cons_zero]
            rw [if_pos (by rfl)]
            apply Exists.intro
            refine ⟨fun w' hS' => ?_, hSw, ?_⟩
            · first | (go_simp <;> with_reducible rfl) | (go_simp; go_bits; with_reducible rfl)
            go_simp
            try go_bits
            refine hK _ _ ?_
            clear hK K
          refine lex_step (fun K hK => ?_)
          simp only [lexOp, List.getElem?_toArray, List.getElem?_cons_succ, List.getElem?_cons_zero]
          rw [if_pos (by rfl)]
          go_step
          refine (Sum32_s _ b m capm ds (HD.out.below (HB.out.trans (hSw.mono HB.out.size))) (by omega)).mono ?_
          rintro e w2 ⟨rfl, hb2⟩
          replace hSw : Below w1.heap.size w1 w2 := hSw.trans (hb2.mono (by simp))
          clear hb2
          go_simp
          refine hK _ _ ?_
          clear hK K
          iterate 3
            refine lex_step (fun K hK => ?_)
            simp only [lexOp, List.getElem?_toArray, List.getElem?_cons_succ, List.getElem?_cons_zero]
            rw [if_pos (by rfl)]
            apply Exists.intro
            refine ⟨fun w' hS' => ?_, hSw, ?_⟩
            · first | (go_simp <;> with_reducible rfl) | (go_simp; go_bits; with_reducible rfl)
            go_simp
            try go_bits
            refine hK _ _ ?_
            clear hK K
          refine lex_nil ?_
          have K2' := Lib.hid (K2.out.below hSw)
          have K3' := Lib.hid (K3.out.below hSw)
          have K4' := Lib.hid (K4.out.below hSw)
          have HB' := Lib.hid (HB.out.trans (hSw.mono HB.out.size))
          have hE' := HE.out.below HB'.out
          have HD0 := HD
          have hD' := HD.out.below HB'.out
          clear ld0 ld1 ld2 hSw K2 K3 K4 HB HE HD
          generalize w2 = W at *
          have HE := Lib.hid hE'
          have HD := Lib.hid hD'
          clear hE' hD'
          obtain ⟨p0, p1, p2, f0, f1, f2, lt2⟩ := K2'.out.box
          go_wp2_with fail
          refine (Clone_any _ a n cap bs (HE.out.below ((Below.refl _ _).alloc (Nat.le_refl _) _)) (by omega)).mono ?_
          rintro e w5 ⟨v5, m5, rfl, hown, hb5⟩
          obtain ⟨a5, c5, rfl, hsl5, hc5⟩ := Sl.ofOwn hown
          have hm5 := hsl5.1
          have hel := HE.out.1
          have hbW : Below W.heap.size W w5 := ((Below.refl _ _).alloc (Nat.le_refl _) _).trans (hb5.mono (by simp))
          have K9 := Lib.hid (Blk3.below (w1 := w5) (heap_alloc_last W (.cells #[.int .i64 s, .int .i64 c, .slice a n cap] 24)) hb5)
          have K3 := Lib.hid (K3'.out.below hbW)
          have K4 := Lib.hid (K4'.out.below hbW)
          have HB := Lib.hid (HB'.out.trans (hbW.mono HB'.out.size))
          have HD5 := Lib.hid (HD.out.below hbW)
          have lt4 := K4'.out.box.lt
          have hsz : W.heap.size < w5.heap.size := K9.out.box.lt
          rw [show (W.alloc (.cells #[.int .i64 s, .int .i64 c, .slice a n cap] 24)).heap.size = W.heap.size + 1 by simp] at hown
          have HO := Lib.hid hown
          have hz9 : W.heap.size + 1 ≤ w5.heap.size := hsz
          clear p0 p1 p2 f0 f1 f2 lt2 hown hb5 hbW K2' K3' K4' HB' HE HD hsl5
          obtain ⟨p3, p4, p5, f3, f4, f5, lt3⟩ := K3.out.box
          obtain ⟨p6, p7, p8, f6, f7, f8, lt5⟩ := K4.out.box
          obtain ⟨p9, p10, p11, f9, f10, f11, lt9⟩ := K9.out.box
          have ne1 : w.heap.size + 1 + 1 ≠ W.heap.size := by omega
          have ne2 : W.heap.size ≠ w.heap.size + 1 + 1 := by omega
          have ne3 : w.heap.size + 1 ≠ W.heap.size := by omega
          go_wp2_with (at_builtin; first
            | (refine wpList_app1 oneB rfl _ _ _ rfl (W.heap.size + 1) _ _ _ rfl (ownsRow_setCell_below HO.out (by show W.heap.size < W.heap.size + 1; omega) _) _ _ _ rfl ((HD0.out.below (HB.out.setCell (by show w.heap.size ≤ W.heap.size; omega) _)).src encB_cell Try.underlying22 _) (by omega) (by unfold maxLen; omega) (by simpa [World.setCell] using hz9) ?_; intro v6 w6 hown6 hg6 hb6; rw [← List.map_append] at hown6; obtain ⟨a6, c6, hv6, hsl6, hc6⟩ := Sl.ofOwn hown6; subst hv6; have K9b := Lib.hid (K9.out.set2.belowB hb6 (by omega)); have K4b := Lib.hid ((K4.out.other ne1).belowB hb6 (by omega)); have HBb := Lib.hid ((HB.out.setCell (p := ⟨W.heap.size, 2, none⟩) (by show w.heap.size ≤ W.heap.size; omega) _).trans (hb6.mono (by omega))); have HOb := Lib.hid hown6; clear hown6 hg6 hb6 hsl6; obtain ⟨r6, r7, r8, s6, s7, s8, lu5⟩ := K4b.out.box; obtain ⟨r9, r10, r11, s9, s10, s11, lu9⟩ := K9b.out.box))
          exact bodyPost_ret (results_cell_row_tmp rfl _ _ (w.heap.size + 1 + 1) _ _ _ _ rfl (K4b.out.other ne1).set Try.underlying24 rfl infoJob) rfl ⟨_, _, _, rfl, own_mono (own_keep HOb.out (by omega) (by omega) _ _ _ _) (by omega), (HBb.out.setCell (by show w.heap.size ≤ W.heap.size; omega) _).trans ((keep33 _ _ _ _ _).mono (by omega))⟩
        · obtain rfl : T = false := by rw [HT.out]; simp [k4]
          have e4 : (sum == S32 ds) = false := by simp [k4]
          clear HT k4
          iterate 20
            refine lex_step (fun K hK => ?_)
            simp only [lexOp, List.getElem?_toArray, List.getElem?_cons_succ, List.getElem?_cons_zero]
            rw [if_pos (by rfl)]
            apply Exists.intro
            refine ⟨fun w' hS' => ?_, hSw, ?_⟩
            · first | (go_simp <;> with_reducible rfl) | (go_simp; go_bits; with_reducible rfl)
            go_simp
            try go_bits
            refine hK _ _ ?_
            clear hK K
          refine lex_step (fun K hK => ?_)
          simp only [lexOp, List.getElem?_toArray, List.getElem?_cons_succ, List.getElem?_cons_zero]
          rw [if_pos (by rfl)]
          go_step
          refine (Sum32_s _ b m capm ds (HD.out.below (HB.out.trans (hSw.mono HB.out.size))) (by omega)).mono ?_
          rintro e w2 ⟨rfl, hb2⟩
          replace hSw : Below w1.heap.size w1 w2 := hSw.trans (hb2.mono (by simp))
          clear hb2
          go_simp
          refine hK _ _ ?_
          clear hK K
          iterate 3
            refine lex_step (fun K hK => ?_)
            simp only [lexOp, List.getElem?_toArray, List.getElem?_cons_succ, List.getElem?_cons_zero]
            rw [if_pos (by rfl)]
            apply Exists.intro
            refine ⟨fun w' hS' => ?_, hSw, ?_⟩
            · first | (go_simp <;> with_reducible rfl) | (go_simp; go_bits; with_reducible rfl)
            go_simp
            try go_bits
            refine hK _ _ ?_
            clear hK K
          refine lex_nil ?_
          have K2' := Lib.hid (K2.out.below hSw)
          have K3' := Lib.hid (K3.out.below hSw)
          have K4' := Lib.hid (K4.out.below hSw)
          have HB' := Lib.hid (HB.out.trans (hSw.mono HB.out.size))
          have hE' := HE.out.below HB'.out
          have HD0 := HD
          have hD' := HD.out.below HB'.out
          clear ld0 ld1 ld2 hSw K2 K3 K4 HB HE HD
          generalize w2 = W at *
          have HE := Lib.hid hE'
          have HD := Lib.hid hD'
          clear hE' hD'
          obtain ⟨p0, p1, p2, f0, f1, f2, lt2⟩ := K2'.out.box
          go_wp2_with fail
          refine (Clone_any _ a n cap bs (HE.out.below ((Below.refl _ _).alloc (Nat.le_refl _) _)) (by omega)).mono ?_
          rintro e w5 ⟨v5, m5, rfl, hown, hb5⟩
          obtain ⟨a5, c5, rfl, hsl5, hc5⟩ := Sl.ofOwn hown
          have hm5 := hsl5.1
          have hel := HE.out.1
          have hbW : Below W.heap.size W w5 := ((Below.refl _ _).alloc (Nat.le_refl _) _).trans (hb5.mono (by simp))
          have K9 := Lib.hid (Blk3.below (w1 := w5) (heap_alloc_last W (.cells #[.int .i64 s, .int .i64 c, .slice a n cap] 24)) hb5)
          have K3 := Lib.hid (K3'.out.below hbW)
          have K4 := Lib.hid (K4'.out.below hbW)
          have HB := Lib.hid (HB'.out.trans (hbW.mono HB'.out.size))
          have HD5 := Lib.hid (HD.out.below hbW)
          have lt4 := K4'.out.box.lt
          have hsz : W.heap.size < w5.heap.size := K9.out.box.lt
          rw [show (W.alloc (.cells #[.int .i64 s, .int .i64 c, .slice a n cap] 24)).heap.size = W.heap.size + 1 by simp] at hown
          have HO := Lib.hid hown
          have hz9 : W.heap.size + 1 ≤ w5.heap.size := hsz
          clear p0 p1 p2 f0 f1 f2 lt2 hown hb5 hbW K2' K3' K4' HB' HE HD hsl5
          obtain ⟨p3, p4, p5, f3, f4, f5, lt3⟩ := K3.out.box
          obtain ⟨p6, p7, p8, f6, f7, f8, lt5⟩ := K4.out.box
          obtain ⟨p9, p10, p11, f9, f10, f11, lt9⟩ := K9.out.box
          have ne1 : w.heap.size + 1 + 1 ≠ W.heap.size := by omega
          have ne2 : W.heap.size ≠ w.heap.size + 1 + 1 := by omega
          have ne3 : w.heap.size + 1 ≠ W.heap.size := by omega
          clear p3 p4 p5 f3 f4 f5 lt3 HD0
          go_wp2_with fail
          exact bodyPost_ret (results_cell_row_tmp rfl _ _ (w.heap.size + 1 + 1) _ _ _ _ rfl (K4.out.other ne1).set Try.underlying24 rfl infoJob) rfl ⟨_, _, _, rfl, own_mono (own_keep HO.out (by omega) (by omega) _ _ _ _) (by omega), (HB.out.setCell (by show w.heap.size ≤ W.heap.size; omega) _).trans ((keep33 _ _ _ _ _).mono (by omega))⟩
      · obtain rfl : T = false := by rw [HT.out]; simp [k3]
        have e3 : ((m : Int) == q) = false := by simp [k3]
        clear HT
        iterate 16
          refine lex_step (fun K hK => ?_)
          simp only [lexOp, List.getElem?_toArray, List.getElem?_cons_succ, List.getElem?_cons_zero]
          rw [if_pos (by rfl)]
          apply Exists.intro
          refine ⟨fun w' hS' => ?_, hSw, ?_⟩
          · first | (go_simp <;> with_reducible rfl) | (go_simp; go_bits; with_reducible rfl)
          go_simp
          try go_bits
          refine hK _ _ ?_
          clear hK K
        iterate 6
          refine lex_step (fun K hK => ?_)
          simp only [lexOp, List.getElem?_toArray, List.getElem?_cons_succ, List.getElem?_cons_zero]
          rw [if_neg (Bool.eq_false_iff.1 (by rfl))]
          refine ⟨hSw, ?_⟩
          go_simp
          refine hK _ _ ?_
          clear hK K
        iterate 2
          refine lex_step (fun K hK => ?_)
          simp only [lexOp, List.getElem?_toArray, List.getElem?_cons_succ, List.getElem?_cons_zero]
          rw [if_pos (by rfl)]
          apply Exists.intro
          refine ⟨fun w' hS' => ?_, hSw, ?_⟩
          · first | (go_simp <;> with_reducible rfl) | (go_simp; go_bits; with_reducible rfl)
          go_simp
          try go_bits
          refine hK _ _ ?_
          clear hK K
        refine lex_nil ?_
        have K2' := Lib.hid (K2.out.below hSw)
        have K3' := Lib.hid (K3.out.below hSw)
        have K4' := Lib.hid (K4.out.below hSw)
        have HB' := Lib.hid (HB.out.trans (hSw.mono HB.out.size))
        have hE' := HE.out.below HB'.out
        have HD0 := HD
        have hD' := HD.out.below HB'.out
        clear ld0 ld1 ld2 hSw K2 K3 K4 HB HE HD
        generalize w1.drew = W at *
        have HE := Lib.hid hE'
        have HD := Lib.hid hD'
        clear hE' hD'
        obtain ⟨p0, p1, p2, f0, f1, f2, lt2⟩ := K2'.out.box
        go_wp2_with fail
        refine (Clone_any _ a n cap bs (HE.out.below ((Below.refl _ _).alloc (Nat.le_refl _) _)) (by omega)).mono ?_
        rintro e w5 ⟨v5, m5, rfl, hown, hb5⟩
        obtain ⟨a5, c5, rfl, hsl5, hc5⟩ := Sl.ofOwn hown
        have hm5 := hsl5.1
        have hel := HE.out.1
        have hbW : Below W.heap.size W w5 := ((Below.refl _ _).alloc (Nat.le_refl _) _).trans (hb5.mono (by simp))
        have K9 := Lib.hid (Blk3.below (w1 := w5) (heap_alloc_last W (.cells #[.int .i64 s, .int .i64 c, .slice a n cap] 24)) hb5)
        have K3 := Lib.hid (K3'.out.below hbW)
        have K4 := Lib.hid (K4'.out.below hbW)
        have HB := Lib.hid (HB'.out.trans (hbW.mono HB'.out.size))
        have HD5 := Lib.hid (HD.out.below hbW)
        have lt4 := K4'.out.box.lt
        have hsz : W.heap.size < w5.heap.size := K9.out.box.lt
        rw [show (W.alloc (.cells #[.int .i64 s, .int .i64 c, .slice a n cap] 24)).heap.size = W.heap.size + 1 by simp] at hown
        have HO := Lib.hid hown
        have hz9 : W.heap.size + 1 ≤ w5.heap.size := hsz
        clear p0 p1 p2 f0 f1 f2 lt2 hown hb5 hbW K2' K3' K4' HB' HE HD hsl5
        obtain ⟨p3, p4, p5, f3, f4, f5, lt3⟩ := K3.out.box
        obtain ⟨p6, p7, p8, f6, f7, f8, lt5⟩ := K4.out.box
        obtain ⟨p9, p10, p11, f9, f10, f11, lt9⟩ := K9.out.box
        have ne1 : w.heap.size + 1 + 1 ≠ W.heap.size := by omega
        have ne2 : W.heap.size ≠ w.heap.size + 1 + 1 := by omega
        have ne3 : w.heap.size + 1 ≠ W.heap.size := by omega
        clear p3 p4 p5 f3 f4 f5 lt3 HD0
        go_wp2_with fail
        exact bodyPost_ret (results_cell_row_tmp rfl _ _ (w.heap.size + 1 + 1) _ _ _ _ rfl (K4.out.other ne1).set Try.underlying24 rfl infoJob) rfl ⟨_, _, _, rfl, own_mono (own_keep HO.out (by omega) (by omega) _ _ _ _) (by omega), (HB.out.setCell (by show w.heap.size ≤ W.heap.size; omega) _).trans ((keep33 _ _ _ _ _).mono (by omega))⟩
    · obtain rfl : T = false := by rw [HT.out]; simp [k2]
      have e3 : (f == p) = false := by simp [k2]
      clear HT
      iterate 9
        refine lex_step (fun K hK => ?_)
        simp only [lexOp, List.getElem?_toArray, List.getElem?_cons_succ, List.getElem?_cons_zero]
        rw [if_pos (by rfl)]
        apply Exists.intro
        refine ⟨fun w' hS' => ?_, hSw, ?_⟩
        · first | (go_simp <;> with_reducible rfl) | (go_simp; go_bits; with_reducible rfl)
        go_simp
        try go_bits
        refine hK _ _ ?_
        clear hK K
      iterate 5
        refine lex_step (fun K hK => ?_)
        simp only [lexOp, List.getElem?_toArray, List.getElem?_cons_succ, List.getElem?_cons_zero]
        rw [if_neg (Bool.eq_false_iff.1 (by rfl))]
        refine ⟨hSw, ?_⟩
        go_simp
        refine hK _ _ ?_
        clear hK K
      iterate 2
        refine lex_step (fun K hK => ?_)
        simp only [lexOp, List.getElem?_toArray, List.getElem?_cons_succ, List.getElem?_cons_zero]
        rw [if_pos (by rfl)]
        apply Exists.intro
        refine ⟨fun w' hS' => ?_, hSw, ?_⟩
        · first | (go_simp <;> with_reducible rfl) | (go_simp; go_bits; with_reducible rfl)
        go_simp
        try go_bits
        refine hK _ _ ?_
        clear hK K
      iterate 6
        refine lex_step (fun K hK => ?_)
        simp only [lexOp, List.getElem?_toArray, List.getElem?_cons_succ, List.getElem?_cons_zero]
        rw [if_neg (Bool.eq_false_iff.1 (by rfl))]
        refine ⟨hSw, ?_⟩
        go_simp
        refine hK _ _ ?_
        clear hK K
      iterate 2
        refine lex_step (fun K hK => ?_)
        simp only [lexOp, List.getElem?_toArray, List.getElem?_cons_succ, List.getElem?_cons_zero]
        rw [if_pos (by rfl)]
        apply Exists.intro
        refine ⟨fun w' hS' => ?_, hSw, ?_⟩
        · first | (go_simp <;> with_reducible rfl) | (go_simp; go_bits; with_reducible rfl)
        go_simp
        try go_bits
        refine hK _ _ ?_
        clear hK K
      refine lex_nil ?_
      have K2' := Lib.hid (K2.out.below hSw)
      have K3' := Lib.hid (K3.out.below hSw)
      have K4' := Lib.hid (K4.out.below hSw)
      have HB' := Lib.hid (HB.out.trans (hSw.mono HB.out.size))
      have hE' := HE.out.below HB'.out
      have HD0 := HD
      have hD' := HD.out.below HB'.out
      clear ld0 ld1 ld2 hSw K2 K3 K4 HB HE HD
      generalize w1.drew = W at *
      have HE := Lib.hid hE'
      have HD := Lib.hid hD'
      clear hE' hD'
      obtain ⟨p0, p1, p2, f0, f1, f2, lt2⟩ := K2'.out.box
      go_wp2_with fail
      refine (Clone_any _ a n cap bs (HE.out.below ((Below.refl _ _).alloc (Nat.le_refl _) _)) (by omega)).mono ?_
      rintro e w5 ⟨v5, m5, rfl, hown, hb5⟩
      obtain ⟨a5, c5, rfl, hsl5, hc5⟩ := Sl.ofOwn hown
      have hm5 := hsl5.1
      have hel := HE.out.1
      have hbW : Below W.heap.size W w5 := ((Below.refl _ _).alloc (Nat.le_refl _) _).trans (hb5.mono (by simp))
      have K9 := Lib.hid (Blk3.below (w1 := w5) (heap_alloc_last W (.cells #[.int .i64 s, .int .i64 c, .slice a n cap] 24)) hb5)
      have K3 := Lib.hid (K3'.out.below hbW)
      have K4 := Lib.hid (K4'.out.below hbW)
      have HB := Lib.hid (HB'.out.trans (hbW.mono HB'.out.size))
      have HD5 := Lib.hid (HD.out.below hbW)
      have lt4 := K4'.out.box.lt
      have hsz : W.heap.size < w5.heap.size := K9.out.box.lt
      rw [show (W.alloc (.cells #[.int .i64 s, .int .i64 c, .slice a n cap] 24)).heap.size = W.heap.size + 1 by simp] at hown
      have HO := Lib.hid hown
      have hz9 : W.heap.size + 1 ≤ w5.heap.size := hsz
      clear p0 p1 p2 f0 f1 f2 lt2 hown hb5 hbW K2' K3' K4' HB' HE HD hsl5
      obtain ⟨p3, p4, p5, f3, f4, f5, lt3⟩ := K3.out.box
      obtain ⟨p6, p7, p8, f6, f7, f8, lt5⟩ := K4.out.box
      obtain ⟨p9, p10, p11, f9, f10, f11, lt9⟩ := K9.out.box
      have ne1 : w.heap.size + 1 + 1 ≠ W.heap.size := by omega
      have ne2 : W.heap.size ≠ w.heap.size + 1 + 1 := by omega
      have ne3 : w.heap.size + 1 ≠ W.heap.size := by omega
      clear p3 p4 p5 f3 f4 f5 lt3 HD0
      go_wp2_with fail
      exact bodyPost_ret (results_cell_row_tmp rfl _ _ (w.heap.size + 1 + 1) _ _ _ _ rfl (K4.out.other ne1).set Try.underlying24 rfl infoJob) rfl ⟨_, _, _, rfl, own_mono (own_keep HO.out (by omega) (by omega) _ _ _ _) (by omega), (HB.out.setCell (by show w.heap.size ≤ W.heap.size; omega) _).trans ((keep33 _ _ _ _ _).mono (by omega))⟩
  · obtain rfl : T = false := by rw [HT.out]; simp [k1]
    clear HT
    iterate 3
      refine lex_step (fun K hK => ?_)
      simp only [lexOp, List.getElem?_toArray, List.getElem?_cons_succ, List.getElem?_cons_zero]
      rw [if_pos (by rfl)]
      apply Exists.intro
      refine ⟨fun w' hS' => ?_, hSw, ?_⟩
      · first | (go_simp <;> with_reducible rfl) | (go_simp; go_bits; with_reducible rfl)
      go_simp
      try go_bits
      refine hK _ _ ?_
      clear hK K
    iterate 4
      refine lex_step (fun K hK => ?_)
      simp only [lexOp, List.getElem?_toArray, List.getElem?_cons_succ, List.getElem?_cons_zero]
      rw [if_neg (Bool.eq_false_iff.1 (by rfl))]
      refine ⟨hSw, ?_⟩
      go_simp
      refine hK _ _ ?_
      clear hK K
    iterate 2
      refine lex_step (fun K hK => ?_)
      simp only [lexOp, List.getElem?_toArray, List.getElem?_cons_succ, List.getElem?_cons_zero]
      rw [if_pos (by rfl)]
      apply Exists.intro
      refine ⟨fun w' hS' => ?_, hSw, ?_⟩
      · first | (go_simp <;> with_reducible rfl) | (go_simp; go_bits; with_reducible rfl)
      go_simp
      try go_bits
      refine hK _ _ ?_
      clear hK K
    iterate 5
      refine lex_step (fun K hK => ?_)
      simp only [lexOp, List.getElem?_toArray, List.getElem?_cons_succ, List.getElem?_cons_zero]
      rw [if_neg (Bool.eq_false_iff.1 (by rfl))]
      refine ⟨hSw, ?_⟩
      go_simp
      refine hK _ _ ?_
      clear hK K
    iterate 2
      refine lex_step (fun K hK => ?_)
      simp only [lexOp, List.getElem?_toArray, List.getElem?_cons_succ, List.getElem?_cons_zero]
      rw [if_pos (by rfl)]
      apply Exists.intro
      refine ⟨fun w' hS' => ?_, hSw, ?_⟩
      · first | (go_simp <;> with_reducible rfl) | (go_simp; go_bits; with_reducible rfl)
      go_simp
      try go_bits
      refine hK _ _ ?_
      clear hK K
    iterate 6
      refine lex_step (fun K hK => ?_)
      simp only [lexOp, List.getElem?_toArray, List.getElem?_cons_succ, List.getElem?_cons_zero]
      rw [if_neg (Bool.eq_false_iff.1 (by rfl))]
      refine ⟨hSw, ?_⟩
      go_simp
      refine hK _ _ ?_
      clear hK K
    iterate 2
      refine lex_step (fun K hK => ?_)
      simp only [lexOp, List.getElem?_toArray, List.getElem?_cons_succ, List.getElem?_cons_zero]
      rw [if_pos (by rfl)]
      apply Exists.intro
      refine ⟨fun w' hS' => ?_, hSw, ?_⟩
      · first | (go_simp <;> with_reducible rfl) | (go_simp; go_bits; with_reducible rfl)
      go_simp
      try go_bits
      refine hK _ _ ?_
      clear hK K
    refine lex_nil ?_
    have K2' := Lib.hid (K2.out.below hSw)
    have K3' := Lib.hid (K3.out.below hSw)
    have K4' := Lib.hid (K4.out.below hSw)
    have HB' := Lib.hid (HB.out.trans (hSw.mono HB.out.size))
    have hE' := HE.out.below HB'.out
    have HD0 := HD
    have hD' := HD.out.below HB'.out
    clear ld0 ld1 ld2 hSw K2 K3 K4 HB HE HD
    generalize w1.drew = W at *
    have HE := Lib.hid hE'
    have HD := Lib.hid hD'
    clear hE' hD'
    obtain ⟨p0, p1, p2, f0, f1, f2, lt2⟩ := K2'.out.box
    go_wp2_with fail
    refine (Clone_any _ a n cap bs (HE.out.below ((Below.refl _ _).alloc (Nat.le_refl _) _)) (by omega)).mono ?_
    rintro e w5 ⟨v5, m5, rfl, hown, hb5⟩
    obtain ⟨a5, c5, rfl, hsl5, hc5⟩ := Sl.ofOwn hown
    have hm5 := hsl5.1
    have hel := HE.out.1
    have hbW : Below W.heap.size W w5 := ((Below.refl _ _).alloc (Nat.le_refl _) _).trans (hb5.mono (by simp))
    have K9 := Lib.hid (Blk3.below (w1 := w5) (heap_alloc_last W (.cells #[.int .i64 s, .int .i64 c, .slice a n cap] 24)) hb5)
    have K3 := Lib.hid (K3'.out.below hbW)
    have K4 := Lib.hid (K4'.out.below hbW)
    have HB := Lib.hid (HB'.out.trans (hbW.mono HB'.out.size))
    have HD5 := Lib.hid (HD.out.below hbW)
    have lt4 := K4'.out.box.lt
    have hsz : W.heap.size < w5.heap.size := K9.out.box.lt
    rw [show (W.alloc (.cells #[.int .i64 s, .int .i64 c, .slice a n cap] 24)).heap.size = W.heap.size + 1 by simp] at hown
    have HO := Lib.hid hown
    have hz9 : W.heap.size + 1 ≤ w5.heap.size := hsz
    clear p0 p1 p2 f0 f1 f2 lt2 hown hb5 hbW K2' K3' K4' HB' HE HD hsl5
    obtain ⟨p3, p4, p5, f3, f4, f5, lt3⟩ := K3.out.box
    obtain ⟨p6, p7, p8, f6, f7, f8, lt5⟩ := K4.out.box
    obtain ⟨p9, p10, p11, f9, f10, f11, lt9⟩ := K9.out.box
    have ne1 : w.heap.size + 1 + 1 ≠ W.heap.size := by omega
    have ne2 : W.heap.size ≠ w.heap.size + 1 + 1 := by omega
    have ne3 : w.heap.size + 1 ≠ W.heap.size := by omega
    clear p3 p4 p5 f3 f4 f5 lt3 HD0
    go_wp2_with fail
    exact bodyPost_ret (results_cell_row_tmp rfl _ _ (w.heap.size + 1 + 1) _ _ _ _ rfl (K4.out.other ne1).set Try.underlying24 rfl infoJob) rfl ⟨_, _, _, rfl, own_mono (own_keep HO.out (by omega) (by omega) _ _ _ _) (by omega), (HB.out.setCell (by show w.heap.size ≤ W.heap.size; omega) _).trans ((keep33 _ _ _ _ _).mono (by omega))⟩
theorem Take_any (w : World) (s c : Int) (a : Option Addr) (n cap : Nat) (bs : List UInt8) (f sum : Int) (b : Option Addr) (m capm : Nat) (ds : List UInt8) (hs : IntR s) (hc : IntR c) (hn : n ≤ 1048576) (he : Sl encB w a n bs) (hds : Sl encB w b m ds) (hm : m ≤ 65536) :
    Calls Try.prog 11 #[jobV s c a n cap, replyV f b m capm sum] w (TakeRet s c (takesR s c n f ds sum) (takeL (takesR s c n f ds sum) bs ds) w) :=
  Take_all w s c a n cap bs f sum b m capm ds hs hc hn he hds
end Go.Proofs.Ytikkkmfddhijeaa
