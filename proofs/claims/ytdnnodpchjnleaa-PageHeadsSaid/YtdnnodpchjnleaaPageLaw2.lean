/- PageHeads: the walk. No condition. -/
import Derived.Test.YtdnnodpchjnleaaPageLaw
import Derived.Test.YtdnnodpchjnleaaRegion2
namespace Go.Proofs.Ytdnnodpchjnleaa
open Go.ChangeShapes Go.WideShapes Go.ChangeAt Go.RowKit
theorem headR_seq (bs : List UInt8) : (headR bs).seq < 4294967296 := by
  unfold headR
  split
  · exact (by decide : 0 < 4294967296)
  · split
    · exact (by decide : 0 < 4294967296)
    · split
      · exact (by decide : 0 < 4294967296)
      · exact get4_lt bs
/-- Two blocks hold the same header; the rest is as in wB. -/
def RS (g1 g2 : Nat) (s : Nat) (l v : Bool) (wB w' : World) : Prop :=
  ((w'.cell? ⟨g1, 0, none⟩ = some (.int .u32 (s : Int)) ∧ w'.cell? ⟨g1, 1, none⟩ = some (.bool l) ∧ w'.cell? ⟨g1, 2, none⟩ = some (.bool v)) ∧
  (w'.cell? ⟨g2, 0, none⟩ = some (.int .u32 (s : Int)) ∧ w'.cell? ⟨g2, 1, none⟩ = some (.bool l) ∧ w'.cell? ⟨g2, 2, none⟩ = some (.bool v))) ∧ Below wB.heap.size wB w'
theorem RS.of {g1 g2 s : Nat} {l v : Bool} {w1 w2 : World} {w : World} (h1 : w1.heap[g1]? = some (.cells (headV s l v) 26)) (h2 : w1.heap[g2]? = some (.cells (headV s l v) 26)) (hb : Below w1.heap.size w1 w2) (h : Below w2.heap.size w2 w) : RS g1 g2 s l v w2 w := by
  have l1 := (Array.getElem?_eq_some_iff.1 h1).1
  have l2 := (Array.getElem?_eq_some_iff.1 h2).1
  have hb' := hb.trans (h.mono hb.size)
  rw [← hb'.block _ l1] at h1
  rw [← hb'.block _ l2] at h2
  refine ⟨⟨⟨?_, ?_, ?_⟩, ?_, ?_, ?_⟩, h⟩
  · rw [cell_of_row w _ 0 _ _ _ h1]; rfl
  · rw [cell_of_row w _ 1 _ _ _ h1]; rfl
  · rw [cell_of_row w _ 2 _ _ _ h1]; rfl
  · rw [cell_of_row w _ 0 _ _ _ h2]; rfl
  · rw [cell_of_row w _ 1 _ _ _ h2]; rfl
  · rw [cell_of_row w _ 2 _ _ _ h2]; rfl

set_option maxRecDepth 100000 in
set_option maxHeartbeats 2000000 in
theorem walk_PageHeads (s : Int) (a : Option Addr) (n cap : Nat) (z : List Int) (w : World) (hs : (Lit.int .u32 s).wf = true) (h0 : IsRow .u8 w a n cap z) :
    Calls Try.prog 3 #[.int .u32 s, .slice a n cap] w fun e w' => e = .returned (.bool true) ∧ Below w.heap.size w w' := by
  have hcap := Row.cap h0
  obtain ⟨bs, hB, hm⟩ := Bs.ofRow h0
  unfold maxLen at hm
  have HB := Lib.hid hB.sl
  obtain ⟨s0, s1⟩ := bounds_u32 hs
  obtain ⟨q, rfl⟩ : ∃ q : Nat, s = q := ⟨s.toNat, by omega⟩
  have hq : q < 4294967296 := by omega
  clear h0 hB hs
  go_enter Try.func3, Try.ntmps3
  go_wp2_with fail
  refine (fixed04_any _).mono ?_
  rintro e w1 ⟨rfl, hb1⟩
  by_cases hn : 500 < n
  · go_wp2_with fail
    go_ret
    exact ⟨rfl, hb1⟩
  have H1 := Lib.hid hb1
  clear hb1
  go_wp2_with fail
  refine (Parse_any _ _ _ _ bs (HB.out.below H1.out) (by omega) hcap).mono ?_
  have hsq := headR_seq bs
  obtain ⟨r, hr⟩ : ∃ r, r = headR bs := ⟨_, rfl⟩
  rw [← hr] at hsq ⊢
  have HR := Lib.hid hr
  clear hr
  obtain ⟨sq, l, v, er⟩ := r
  rintro e w2 ⟨rfl, hb2⟩
  have H2 := Lib.hid (H1.out.trans (hb2.mono H1.out.size))
  clear hb2
  unfold headV
  go_wp2_with fail
  have h3 := heap_alloc_last w2 (Obj.cells (headV sq l v) 26)
  have HB3 := Lib.hid (H2.out.alloc H2.out.size (Obj.cells (headV sq l v) 26))
  have hl3 : w2.heap.size < (w2.alloc (Obj.cells (headV sq l v) 26)).heap.size := by simp
  refine (refParse_any _ _ _ _ bs (HB.out.below HB3.out) (by omega) hcap).mono ?_
  rw [← HR.out]
  rintro e w4 ⟨rfl, hb4⟩
  have h4 := h3
  rw [← hb4.block _ hl3] at h4
  have hl4 := Nat.lt_of_lt_of_le hl3 hb4.size
  have H4 := Lib.hid (HB3.out.trans (hb4.mono HB3.out.size))
  have H5 := Lib.hid (H4.out.alloc H4.out.size (Obj.cells (headV sq l v) 26))
  have h5 : (w4.alloc (Obj.cells (headV sq l v) 26)).heap[w2.heap.size]? = some (.cells (headV sq l v) 26) := by rw [Below.heap_alloc _ _ _ hl4]; exact h4
  have HH1 := Lib.hid h5
  have HH2 := Lib.hid (heap_alloc_last w4 (Obj.cells (headV sq l v) 26))
  clear hb4 h3 h4 h5 hl3 hl4
  unfold headV
  go_wp2_with fail
  obtain ⟨g1, hg1⟩ : ∃ g1, g1 = w2.heap.size := ⟨_, rfl⟩
  obtain ⟨g2, hg2⟩ : ∃ g2, g2 = w4.heap.size := ⟨_, rfl⟩
  obtain ⟨wR, hwR⟩ : ∃ wR, wR = w4.alloc (Obj.cells #[.int .u32 (sq : Int), .bool l, .bool v] 26) := ⟨_, rfl⟩
  rw [show w4.alloc (Obj.cells (headV sq l v) 26) = wR from hwR.symm] at HH1 HH2 H5
  rw [← hg1] at HH1 ⊢
  rw [← hg2] at HH2 ⊢
  rw [← hwR]
  clear hwR hg1 hg2
  have hSw : RS g1 g2 sq l v wR wR.drew := RS.of HH1.out HH2.out (Below.refl _ _) (Below.refl _ _).drew
  refine wp_region_lex2 (RS g1 g2 sq l v wR) [(0, true), (3, true), (1, false), (2, true), (4, false), (5, false), (6, true), (7, true), (8, true), (9, true), (10, true), (11, true), (12, true), (13, true), (14, true), (15, true), (16, true), (17, true)] (by kernel_rfl) (by kernel_rfl) (fun c a d v w h => by cases d <;> exact h) ?_
  iterate 2
    refine lex2_step (fun K hK => ?_)
    simp only [lexOp, List.getElem?_toArray, List.getElem?_cons_succ, List.getElem?_cons_zero]
    rw [if_pos (by rfl)]
    apply Exists.intro
    refine ⟨fun w' hS' => ?_, hSw, ?_⟩
    · first | (go_simp <;> with_reducible rfl) | (go_simp; go_bits; with_reducible rfl)
    go_simp
    try go_bits
    refine hK _ _ ?_
    clear hK K
  refine lex2_step (fun K hK => ?_)
  simp only [lexOp, List.getElem?_toArray, List.getElem?_cons_succ, List.getElem?_cons_zero]
  rw [if_pos (by rfl)]
  go_step
  refine (Bytes_any _ q hq).mono ?_
  rintro e w6 ⟨v6, m6, rfl, hown6, hb6⟩
  obtain ⟨a6, cap6, rfl, hsl6, _⟩ := Sl.ofOwn hown6
  have hbR : Below wR.heap.size wR w6 := hSw.2.trans hb6
  have H6 := Lib.hid (H5.out.trans (hbR.mono H5.out.size))
  replace hSw : RS g1 g2 sq l v wR w6 := RS.of HH1.out HH2.out (Below.refl _ _) hbR
  have hS6 : RS g1 g2 sq l v w6 w6 := RS.of HH1.out HH2.out hbR (Below.refl _ _)
  have hcv : ∀ w', RS g1 g2 sq l v w6 w' → (convert 23 9 (.slice a6 m6 cap6)).run Try.prog w' = .ok (.string ⟨(headB q).toArray⟩) w' := fun w' h => run_conv (hsl6.below h.2) cap6
  have c1 : ∀ w', RS g1 g2 sq l v w6 w' → w'.cell? ⟨g1, 0, none⟩ = some (.int .u32 (sq : Int)) := fun w' h => h.1.1.1
  have c2 : ∀ w', RS g1 g2 sq l v w6 w' → w'.cell? ⟨g1, 1, none⟩ = some (.bool l) := fun w' h => h.1.1.2.1
  have c3 : ∀ w', RS g1 g2 sq l v w6 w' → w'.cell? ⟨g1, 2, none⟩ = some (.bool v) := fun w' h => h.1.1.2.2
  have c4 : ∀ w', RS g1 g2 sq l v w6 w' → w'.cell? ⟨g2, 0, none⟩ = some (.int .u32 (sq : Int)) := fun w' h => h.1.2.1
  have c5 : ∀ w', RS g1 g2 sq l v w6 w' → w'.cell? ⟨g2, 1, none⟩ = some (.bool l) := fun w' h => h.1.2.2.1
  have c6 : ∀ w', RS g1 g2 sq l v w6 w' → w'.cell? ⟨g2, 2, none⟩ = some (.bool v) := fun w' h => h.1.2.2.2
  clear hown6 hsl6 hb6
  go_simp
  refine hK _ _ ?_
  clear hK K hSw
  refine lex2_strong (RS g1 g2 sq l v w6) (fun x hx => RS.of HH1.out HH2.out (Below.refl _ _) (hbR.trans (hx.2.mono hbR.size))) ?_
  have hSw := hS6
  clear hS6
  iterate 1
    refine lex2_step (fun K hK => ?_)
    simp only [lexOp, List.getElem?_toArray, List.getElem?_cons_succ, List.getElem?_cons_zero]
    rw [if_pos (by rfl)]
    apply Exists.intro
    refine ⟨fun w' hS' => ?_, hSw, ?_⟩
    · first | (go_simp <;> with_reducible rfl) | (go_simp; go_bits; with_reducible rfl)
    go_simp
    try go_bits
    refine hK _ _ ?_
    clear hK K
  clear hcv
  refine lex2_step (fun K hK => ?_)
  simp only [lexOp, List.getElem?_toArray, List.getElem?_cons_succ, List.getElem?_cons_zero]
  rw [if_pos (by rfl)]
  go_step
  refine (refBytes_any _ q hq).mono ?_
  rintro e w7 ⟨v7, m7, rfl, hown7, hb7⟩
  obtain ⟨a7, cap7, rfl, hsl7, _⟩ := Sl.ofOwn hown7
  have H7 := Lib.hid (H6.out.trans (hb7.mono H6.out.size))
  have hcv7 := run_conv hsl7 cap7
  replace hSw : RS g1 g2 sq l v w6 w7 := RS.of HH1.out HH2.out hbR hb7
  clear hown7 hsl7 hb7
  go_simp
  refine hK _ _ ?_
  clear hK K
  refine lex2_step (fun K hK => ?_)
  simp only [lexOp, List.getElem?_toArray, List.getElem?_cons_succ, List.getElem?_cons_zero]
  rw [if_pos (by rfl)]
  go_step
  refine hK _ _ ?_
  clear hK K hcv7
  iterate 12
    refine lex2_step (fun K hK => ?_)
    simp only [lexOp, List.getElem?_toArray, List.getElem?_cons_succ, List.getElem?_cons_zero]
    rw [if_pos (by rfl)]
    apply Exists.intro
    refine ⟨fun w' hS' => ?_, hSw, ?_⟩
    · first | (go_simp <;> with_reducible rfl) | (go_simp; go_bits; with_reducible rfl)
    go_simp
    try go_bits
    refine hK _ _ ?_
    clear hK K
  refine lex2_nil ?_
  go_wp2
  go_ret
  exact ⟨by simp, H7.out⟩
end Go.Proofs.Ytdnnodpchjnleaa
