/- fetch: is a reply what a job wants? No condition. -/
import Derived.Test.YtikkkmfddhijeaaFetchFn3
namespace Go.Proofs.Ytikkkmfddhijeaa
open Go.ChangeShapes Go.WideShapes Go.ChangeAt Go.RowKit
/-- The sum of 32 bits. -/
def S32 (ds : List UInt8) : Int := bits .xor .u32 (ds.foldl refByte32 4294967295) 4294967295
theorem s32_eq (ds : List UInt8) : not32 (ds.foldl downByte 4294967295) = S32 ds := by
  unfold S32
  rw [same32 ds _ (by omega) (by omega), not32, show IntKind.u32.max = 4294967295 by decide, bits32_xor, bits32_xor, BitVec.xor_comm]
theorem S32_bounds (ds : List UInt8) : 0 ≤ S32 ds ∧ S32 ds < 4294967296 := bits_u32 _ _ _
theorem Sum32_s (w : World) (a : Option Addr) (n cap : Nat) (bs : List UInt8) (hb : Bs w a n bs) (hn : n ≤ 65536) :
    Calls Try.prog 22 #[.slice a n cap] w fun e w' => e = .returned (.int .u32 (S32 bs)) ∧ Below w.heap.size w w' := by
  have h := Sum32_any w a n cap bs hb hn
  rwa [s32_eq] at h
theorem refSum32_s (w : World) (a : Option Addr) (n cap : Nat) (bs : List UInt8) (hb : Bs w a n bs) (hn : n ≤ 65536) :
    Calls Try.prog 21 #[.slice a n cap] w fun e w' => e = .returned (.int .u32 (S32 bs)) ∧ w = w' := refSum32_any w a n cap bs hb hn
theorem wantR_bounds (s c : Int) (n : Nat) : 0 ≤ (wantR s c n).2 ∧ (wantR s c n).2 ≤ 1024 ∧ 0 ≤ (wantR s c n).1 ∧ (wantR s c n).1 ≤ 65536 := by
  by_cases h : jobOk s c n = true ∧ (n : Int) ≠ s
  · obtain ⟨j0, j1, j2, j3, j4⟩ := jobOk_bounds h.1
    have := h.2
    rw [wantR_yes h]
    simp only []
    omega
  · rw [wantR_no h]
    simp only []
    omega
/-- Is a reply what a job wants? -/
def takesR (s c : Int) (n : Nat) (f : Int) (ds : List UInt8) (sum : Int) : Bool :=
  decide (0 < (wantR s c n).2 ∧ f = (wantR s c n).1 ∧ (ds.length : Int) = (wantR s c n).2 ∧ sum = S32 ds)
abbrev replyV (f : Int) (a : Option Addr) (n cap : Nat) (sum : Int) : Value := .agg #[.int .i64 f, .slice a n cap, .int .u32 sum]
set_option maxRecDepth 100000 in
set_option maxHeartbeats 1000000 in
theorem refTakes_all (w : World) (s c : Int) (a : Option Addr) (n cap : Nat) (f sum : Int) (b : Option Addr) (m capm : Nat) (ds : List UInt8) (hs : IntR s) (hc : IntR c) (hn : n ≤ maxLen) (hds : Sl encB w b m ds) :
    Calls Try.prog 12 #[jobV s c a n cap, replyV f b m capm sum] w fun e w' => e = .returned (.bool (takesR s c n f ds sum)) ∧ Below w.heap.size w w' := by
  have HS := Lib.hid hs
  have HC := Lib.hid hc
  have HN := Lib.hid hn
  have HD := Lib.hid hds
  have hdl := hds.1
  clear hs hc hn hds
  have HT : Hid (takesR s c n f ds sum = decide (0 < (wantR s c n).2 ∧ f = (wantR s c n).1 ∧ (m : Int) = (wantR s c n).2 ∧ sum = S32 ds)) := by show _ = _; rw [← hdl]; rfl
  generalize takesR s c n f ds sum = T at HT ⊢
  obtain ⟨b1, b2, b3, b4⟩ := wantR_bounds s c n
  have hW := fun w' => refWant_any w' s c a n cap HS.out HC.out HN.out
  generalize (wantR s c n).1 = p at HT b3 b4 hW
  generalize (wantR s c n).2 = q at HT b1 b2 hW
  go_enter Try.func12, Try.ntmps12
  go_wp2_with fail
  refine (hW _).mono ?_
  rintro e w1 ⟨rfl, hb1⟩
  have K3 := Lib.hid (Blk3.below (w1 := w1) (two_last w (.cells #[.int .i64 s, .int .i64 c, .slice a n cap] 24) (.cells #[.int .i64 f, .slice b m capm, .int .u32 sum] 27)) hb1)
  have HB := Lib.hid ((((Below.refl w.heap.size w).alloc (Nat.le_refl _) _).alloc (by simp) _).trans (hb1.mono (by simp; omega)))
  clear hb1 hW
  go_wp2_with fail
  have ld0 : ∀ w', Below w1.heap.size w1 w' → w'.cell? ⟨w.heap.size + 1, 0, none⟩ = some (.int .i64 f) := fun w' h => (K3.out.below h).box.c0
  have ld1 : ∀ w', Below w1.heap.size w1 w' → w'.cell? ⟨w.heap.size + 1, 1, none⟩ = some (.slice b m capm) := fun w' h => (K3.out.below h).box.c1
  have ld2 : ∀ w', Below w1.heap.size w1 w' → w'.cell? ⟨w.heap.size + 1, 2, none⟩ = some (.int .u32 sum) := fun w' h => (K3.out.below h).box.c2
  have hSw : Below w1.heap.size w1 w1.drew := (Below.refl _ _).drew
  refine wp_region_lex (Below w1.heap.size w1) [(0, true), (1, true), (2, true), (3, true), (4, true), (5, true), (6, true), (7, true), (8, true), (9, true), (10, true), (11, true), (12, true), (13, true), (14, true), (15, true), (16, true), (17, true), (18, true), (19, true), (20, false), (21, true), (22, true), (23, true)] (by kernel_rfl) (by kernel_rfl) (fun c a d v w h => by cases d <;> exact h) ?_
  by_cases k1 : 0 < q
  · by_cases k2 : f = p
    · subst k2
      by_cases k3 : (m : Int) = q
      · have hT : T = (sum == S32 ds) := by rw [HT.out, Bool.eq_iff_iff]; simp [k1, k3]
        iterate 20
          refine lex_step (fun K hK => ?_)
          simp only [lexOp, List.getElem?_toArray, List.getElem?_cons_succ, List.getElem?_cons_zero]
          rw [if_pos (by rfl)]
          apply Exists.intro
          refine ⟨fun w' hS' => ?_, hSw, ?_⟩
          · first | (go_simp <;> with_reducible rfl) | (go_simp; go_bits; with_reducible rfl)
          go_simp
          try go_bits
          refine hK _ _ ?_
          clear hK K
        refine lex_step (fun K hK => ?_)
        simp only [lexOp, List.getElem?_toArray, List.getElem?_cons_succ, List.getElem?_cons_zero]
        rw [if_pos (by rfl)]
        go_step
        refine (refSum32_s _ b m capm ds (HD.out.below (HB.out.trans (hSw.mono HB.out.size))) (by omega)).mono ?_
        rintro e w2 ⟨rfl, rfl⟩
        go_simp
        refine hK _ _ ?_
        clear hK K
        iterate 3
          refine lex_step (fun K hK => ?_)
          simp only [lexOp, List.getElem?_toArray, List.getElem?_cons_succ, List.getElem?_cons_zero]
          rw [if_pos (by rfl)]
          apply Exists.intro
          refine ⟨fun w' hS' => ?_, hSw, ?_⟩
          · first | (go_simp <;> with_reducible rfl) | (go_simp; go_bits; with_reducible rfl)
          go_simp
          try go_bits
          refine hK _ _ ?_
          clear hK K
        refine lex_nil ?_
        go_wp2
        go_ret
        exact ⟨by first | rfl | (rw [hT]; rfl), HB.out.trans (hSw.mono HB.out.size)⟩
      · have hT : T = false := by rw [HT.out]; simp [k3]
        have e3 : ((m : Int) == q) = false := by simp [k3]
        iterate 16
          refine lex_step (fun K hK => ?_)
          simp only [lexOp, List.getElem?_toArray, List.getElem?_cons_succ, List.getElem?_cons_zero]
          rw [if_pos (by rfl)]
          apply Exists.intro
          refine ⟨fun w' hS' => ?_, hSw, ?_⟩
          · first | (go_simp <;> with_reducible rfl) | (go_simp; go_bits; with_reducible rfl)
          go_simp
          try go_bits
          refine hK _ _ ?_
          clear hK K
        iterate 6
          refine lex_step (fun K hK => ?_)
          simp only [lexOp, List.getElem?_toArray, List.getElem?_cons_succ, List.getElem?_cons_zero]
          rw [if_neg (Bool.eq_false_iff.1 (by rfl))]
          refine ⟨hSw, ?_⟩
          go_simp
          refine hK _ _ ?_
          clear hK K
        iterate 2
          refine lex_step (fun K hK => ?_)
          simp only [lexOp, List.getElem?_toArray, List.getElem?_cons_succ, List.getElem?_cons_zero]
          rw [if_pos (by rfl)]
          apply Exists.intro
          refine ⟨fun w' hS' => ?_, hSw, ?_⟩
          · first | (go_simp <;> with_reducible rfl) | (go_simp; go_bits; with_reducible rfl)
          go_simp
          try go_bits
          refine hK _ _ ?_
          clear hK K
        refine lex_nil ?_
        go_wp2
        go_ret
        exact ⟨by first | rfl | (rw [hT]; rfl), HB.out.trans (hSw.mono HB.out.size)⟩
    · have hT : T = false := by rw [HT.out]; simp [k2]
      have e3 : (f == p) = false := by simp [k2]
      iterate 9
        refine lex_step (fun K hK => ?_)
        simp only [lexOp, List.getElem?_toArray, List.getElem?_cons_succ, List.getElem?_cons_zero]
        rw [if_pos (by rfl)]
        apply Exists.intro
        refine ⟨fun w' hS' => ?_, hSw, ?_⟩
        · first | (go_simp <;> with_reducible rfl) | (go_simp; go_bits; with_reducible rfl)
        go_simp
        try go_bits
        refine hK _ _ ?_
        clear hK K
      iterate 5
        refine lex_step (fun K hK => ?_)
        simp only [lexOp, List.getElem?_toArray, List.getElem?_cons_succ, List.getElem?_cons_zero]
        rw [if_neg (Bool.eq_false_iff.1 (by rfl))]
        refine ⟨hSw, ?_⟩
        go_simp
        refine hK _ _ ?_
        clear hK K
      iterate 2
        refine lex_step (fun K hK => ?_)
        simp only [lexOp, List.getElem?_toArray, List.getElem?_cons_succ, List.getElem?_cons_zero]
        rw [if_pos (by rfl)]
        apply Exists.intro
        refine ⟨fun w' hS' => ?_, hSw, ?_⟩
        · first | (go_simp <;> with_reducible rfl) | (go_simp; go_bits; with_reducible rfl)
        go_simp
        try go_bits
        refine hK _ _ ?_
        clear hK K
      iterate 6
        refine lex_step (fun K hK => ?_)
        simp only [lexOp, List.getElem?_toArray, List.getElem?_cons_succ, List.getElem?_cons_zero]
        rw [if_neg (Bool.eq_false_iff.1 (by rfl))]
        refine ⟨hSw, ?_⟩
        go_simp
        refine hK _ _ ?_
        clear hK K
      iterate 2
        refine lex_step (fun K hK => ?_)
        simp only [lexOp, List.getElem?_toArray, List.getElem?_cons_succ, List.getElem?_cons_zero]
        rw [if_pos (by rfl)]
        apply Exists.intro
        refine ⟨fun w' hS' => ?_, hSw, ?_⟩
        · first | (go_simp <;> with_reducible rfl) | (go_simp; go_bits; with_reducible rfl)
        go_simp
        try go_bits
        refine hK _ _ ?_
        clear hK K
      refine lex_nil ?_
      go_wp2
      go_ret
      exact ⟨by first | rfl | (rw [hT]; rfl), HB.out.trans (hSw.mono HB.out.size)⟩
  · have hT : T = false := by rw [HT.out]; simp [k1]
    iterate 3
      refine lex_step (fun K hK => ?_)
      simp only [lexOp, List.getElem?_toArray, List.getElem?_cons_succ, List.getElem?_cons_zero]
      rw [if_pos (by rfl)]
      apply Exists.intro
      refine ⟨fun w' hS' => ?_, hSw, ?_⟩
      · first | (go_simp <;> with_reducible rfl) | (go_simp; go_bits; with_reducible rfl)
      go_simp
      try go_bits
      refine hK _ _ ?_
      clear hK K
    iterate 4
      refine lex_step (fun K hK => ?_)
      simp only [lexOp, List.getElem?_toArray, List.getElem?_cons_succ, List.getElem?_cons_zero]
      rw [if_neg (Bool.eq_false_iff.1 (by rfl))]
      refine ⟨hSw, ?_⟩
      go_simp
      refine hK _ _ ?_
      clear hK K
    iterate 2
      refine lex_step (fun K hK => ?_)
      simp only [lexOp, List.getElem?_toArray, List.getElem?_cons_succ, List.getElem?_cons_zero]
      rw [if_pos (by rfl)]
      apply Exists.intro
      refine ⟨fun w' hS' => ?_, hSw, ?_⟩
      · first | (go_simp <;> with_reducible rfl) | (go_simp; go_bits; with_reducible rfl)
      go_simp
      try go_bits
      refine hK _ _ ?_
      clear hK K
    iterate 5
      refine lex_step (fun K hK => ?_)
      simp only [lexOp, List.getElem?_toArray, List.getElem?_cons_succ, List.getElem?_cons_zero]
      rw [if_neg (Bool.eq_false_iff.1 (by rfl))]
      refine ⟨hSw, ?_⟩
      go_simp
      refine hK _ _ ?_
      clear hK K
    iterate 2
      refine lex_step (fun K hK => ?_)
      simp only [lexOp, List.getElem?_toArray, List.getElem?_cons_succ, List.getElem?_cons_zero]
      rw [if_pos (by rfl)]
      apply Exists.intro
      refine ⟨fun w' hS' => ?_, hSw, ?_⟩
      · first | (go_simp <;> with_reducible rfl) | (go_simp; go_bits; with_reducible rfl)
      go_simp
      try go_bits
      refine hK _ _ ?_
      clear hK K
    iterate 6
      refine lex_step (fun K hK => ?_)
      simp only [lexOp, List.getElem?_toArray, List.getElem?_cons_succ, List.getElem?_cons_zero]
      rw [if_neg (Bool.eq_false_iff.1 (by rfl))]
      refine ⟨hSw, ?_⟩
      go_simp
      refine hK _ _ ?_
      clear hK K
    iterate 2
      refine lex_step (fun K hK => ?_)
      simp only [lexOp, List.getElem?_toArray, List.getElem?_cons_succ, List.getElem?_cons_zero]
      rw [if_pos (by rfl)]
      apply Exists.intro
      refine ⟨fun w' hS' => ?_, hSw, ?_⟩
      · first | (go_simp <;> with_reducible rfl) | (go_simp; go_bits; with_reducible rfl)
      go_simp
      try go_bits
      refine hK _ _ ?_
      clear hK K
    refine lex_nil ?_
    go_wp2
    go_ret
    exact ⟨by first | rfl | (rw [hT]; rfl), HB.out.trans (hSw.mono HB.out.size)⟩
theorem refTakes_any (w : World) (s c : Int) (a : Option Addr) (n cap : Nat) (f sum : Int) (b : Option Addr) (m capm : Nat) (ds : List UInt8) (hs : IntR s) (hc : IntR c) (hn : n ≤ maxLen) (hds : Sl encB w b m ds) (hm : m ≤ 65536) :
    Calls Try.prog 12 #[jobV s c a n cap, replyV f b m capm sum] w fun e w' => e = .returned (.bool (takesR s c n f ds sum)) ∧ Below w.heap.size w w' :=
  refTakes_all w s c a n cap f sum b m capm ds hs hc hn hds
end Go.Proofs.Ytikkkmfddhijeaa
