/- nor: the reference's New; Right. No condition. -/
import Derived.Test.YtjlcgffcfhfffaaNorLaw4
namespace Go.Proofs.Ytjlcgffcfhfffaa
open Go.ChangeShapes Go.WideShapes Go.ChangeAt Go.RowKit
/-- The document's flash and its blocks, all from block B on. -/
structure FlBAt (B : Nat) (w : World) (g gb gc cb cc : Nat) (f : Fl) : Prop where
  fl : FlB w g gb gc cb cc f
  b1 : B ≤ g
  b2 : B ≤ gb
  b3 : B ≤ gc
theorem FlBAt.below {B : Nat} {w w' : World} {g gb gc cb cc : Nat} {f : Fl} (h : FlBAt B w g gb gc cb cc f) (hb : Below w.heap.size w w') : FlBAt B w' g gb gc cb cc f := ⟨h.fl.below hb, h.b1, h.b2, h.b3⟩
/-- A flash whose first i bytes are 255, the others 0. -/
def mkz (S Z L i : Nat) : Fl := { Fl.mk0 S Z L with bs := List.replicate i 255 ++ List.replicate (S * Z - i) 0 }
theorem mkz_end (S Z L : Nat) : mkz S Z L (S * Z) = Fl.mk0 S Z L := by
  unfold mkz Fl.mk0
  simp
theorem mkz_len {S Z L i : Nat} (h : i ≤ S * Z) : (mkz S Z L i).bs.length = S * Z := by
  unfold mkz
  simp; omega
theorem mkz_ok {S Z L i : Nat} (h : newOk S Z L) (hi : i ≤ S * Z) : (mkz S Z L i).Ok := by
  obtain ⟨o1, o2, o3⟩ := h
  have k := Fl.mk0_ok (S := S) (Z := Z) (L := L) (by omega) (by omega) (by omega) (by omega) (by omega) (by omega)
  exact ⟨k.s1, k.s2, k.z1, k.z2, k.l1, k.l2, mkz_len hi, k.hc, k.hn, k.f1, k.f2, k.k1, k.k2⟩
theorem mkz_step {S Z L i : Nat} (h : i < S * Z) : { mkz S Z L i with bs := (mkz S Z L i).bs.set i 255 } = mkz S Z L (i + 1) := by
  unfold mkz
  simp only
  congr 1
  rw [List.set_append_right _ _ (by simp)]
  rw [show S * Z - i = (S * Z - (i + 1)) + 1 by omega, List.replicate_succ]
  simp [List.replicate_succ']
theorem refFlash {W : World} {gb gc S Z L n : Nat} (hn : S * Z = n) (hok : newOk S Z L) (hb : W.heap[gb]? = some (.cells (Array.replicate n (encB 0)) 5)) (hc : W.heap[gc]? = some (.cells (Array.replicate S (encI 0)) 3)) (hne : gb ≠ gc) (hn2 : n ≤ 4194304) :
    FlB (W.alloc (.cells (newCells S Z L n gb gc n S) 53)) W.heap.size gb gc n S (mkz S Z L 0) := by
  subst hn
  have l1 := (Array.getElem?_eq_some_iff.1 hb).1
  have l2 := (Array.getElem?_eq_some_iff.1 hc).1
  have o1 := hok.1
  refine ⟨heap_alloc_last W _, ⟨_, by rw [Below.heap_alloc W _ gb l1]; exact hb, Nat.le_refl _, by unfold maxLen; omega, by simp, by show List.take (S * Z) _ = _; simp [mkz, encB], by rw [List.length_map]; exact mkz_len (by omega)⟩, ⟨_, by rw [Below.heap_alloc W _ gc l2]; exact hc, Nat.le_refl _, by unfold maxLen; omega, by simp, by show List.take S _ = _; simp [mkz, Fl.mk0], by simp [mkz, Fl.mk0]⟩, by omega, by omega, hne, mkz_ok hok (by omega)⟩
def RefMade (w : World) (S Z L : Nat) (e : Ending) (w' : World) : Prop := ∃ g gb gc cb cc, e = .returned (.pointer (some ⟨g, 0, none⟩)) ∧ FlBAt w.heap.size w' g gb gc cb cc (Fl.mk0 S Z L) ∧ Below w.heap.size w w'
set_option maxRecDepth 100000 in
set_option maxHeartbeats 4000000 in
theorem refNew_made (w : World) (S Z L : Nat) (h : newOk S Z L) : Calls Try.prog 19 #[.agg #[.int .i64 S, .int .i64 Z, .int .i64 L]] w (RefMade w S Z L) := by
  have h0 := h
  obtain ⟨h1, h2, h3⟩ := h0
  have HOK := Lib.hid h
  obtain ⟨n, hn⟩ : ∃ n : Nat, S * Z = n := ⟨_, rfl⟩
  have hn1 : 1 ≤ n ∧ n ≤ 4194304 := by
    rw [← hn]
    have a : 1 * 64 ≤ S * Z := Nat.mul_le_mul (by omega) (by omega)
    have b : S * Z ≤ 64 * 65536 := Nat.mul_le_mul (by omega) (by omega)
    omega
  have hni : (S : Int) * (Z : Int) = n := by rw [← hn]; simp
  have hnw : IntKind.i64.wrap (n : Int) = n := IntWalk.i64_in _ (by omega)
  have HN := Lib.hid hn
  clear h hn
  have HB0 : Hid (Below w.heap.size w (w.alloc (.cells #[.int .i64 S, .int .i64 Z, .int .i64 L] 25)).drew) := ((Below.refl _ _).alloc (Nat.le_refl _) _).drew
  have hg0 : ∀ i, (w.alloc (.cells #[.int .i64 S, .int .i64 Z, .int .i64 L] 25)).drew.cell? ⟨w.heap.size, i, none⟩ = (#[.int .i64 S, .int .i64 Z, .int .i64 L] : Array Value)[i]? := fun i => by
    rw [cell_of_row (w.alloc (.cells #[.int .i64 S, .int .i64 Z, .int .i64 L] 25)).drew w.heap.size i _ _ _ (heap_alloc_last w _)]
  have hlt : w.heap.size < (w.alloc (.cells #[.int .i64 S, .int .i64 Z, .int .i64 L] 25)).drew.heap.size := by show w.heap.size < (w.alloc _).heap.size; simp
  go_enter Try.func19, Try.ntmps19
  go_upto_region 1 with fail
  refine wp_region_lexS (Below (w.alloc (.cells #[.int .i64 S, .int .i64 Z, .int .i64 L] 25)).drew.heap.size (w.alloc (.cells #[.int .i64 S, .int .i64 Z, .int .i64 L] 25)).drew)
    (.of [(0, true), (1, true), (2, true), (3, true), (4, true), (5, true), (7, true), (8, true)]
      (.fork 6 (.of [(9, false), (10, true), (11, false)] (.stir [(12, true)]))
        9 (.of [(6, false), (10, true), (11, false)] (.stir [(12, true)])))) (by kernel_rfl) (by kernel_rfl) (fun c a d v w h => by cases d <;> exact h) ?_
  generalize (w.alloc (.cells #[.int .i64 S, .int .i64 Z, .int .i64 L] 25)).drew = W0 at HB0 hg0 hlt ⊢
  have hSw : Below W0.heap.size W0 W0 := Below.refl _ _
  have L0 := fun w' (h : Below W0.heap.size W0 w') => (h.cell hlt).trans (hg0 0)
  have L1 := fun w' (h : Below W0.heap.size W0 w') => (h.cell hlt).trans (hg0 1)
  have L2 := fun w' (h : Below W0.heap.size W0 w') => (h.cell hlt).trans (hg0 2)
  simp only [List.getElem?_toArray, List.getElem?_cons_succ, List.getElem?_cons_zero] at L0 L1 L2
  clear hg0
  have hmk := fun w' => make_ints w' S (by omega)
  have hmb := fun w' => make_bytes w' n hn1.2
  iterate 8
    refine lexS_step (fun K hK => ?_)
    simp only [lexOp, List.getElem?_toArray, List.getElem?_cons_succ, List.getElem?_cons_zero]
    rw [if_pos (by rfl)]
    apply Exists.intro
    refine ⟨fun w' hS' => ?_, hSw, ?_⟩
    · first | (go_simp <;> with_reducible rfl) | (go_simp; go_bits; with_reducible rfl)
    go_simp
    try go_bits
    refine hK _ _ ?_
    clear hK K
  refine lexS_fork ?_ ?_
  · intro K hK
    simp only [lexOp, List.getElem?_toArray, List.getElem?_cons_succ, List.getElem?_cons_zero]
    rw [if_pos (by rfl)]
    go_step
    have hb1 : Below W0.heap.size W0 (W0.alloc (.cells (Array.replicate n (encB 0)) 5)) := hSw.alloc hSw.size _
    have hgb1 := heap_alloc_last W0 (.cells (Array.replicate n (encB 0)) 5)
    have hs1 : W0.heap.size < (W0.alloc (.cells (Array.replicate n (encB 0)) 5)).heap.size := by simp
    generalize W0.alloc (.cells (Array.replicate n (encB 0)) 5) = W1 at hb1 hgb1 hs1 ⊢
    replace hSw := hb1
    refine ⟨hSw, hK _ _ ?_⟩
    clear hK K hb1
    refine lexS_step (fun K hK => ?_)
    simp only [lexOp, List.getElem?_toArray, List.getElem?_cons_succ, List.getElem?_cons_zero]
    rw [if_pos (by rfl)]
    go_step
    have hb2 : Below W0.heap.size W0 (W1.alloc (.cells (Array.replicate S (encI 0)) 3)) := hSw.alloc hSw.size _
    have hgc2 := heap_alloc_last W1 (.cells (Array.replicate S (encI 0)) 3)
    have hgb2 : (W1.alloc (.cells (Array.replicate S (encI 0)) 3)).heap[W0.heap.size]? = some (.cells (Array.replicate n (encB 0)) 5) := by
      rw [Below.heap_alloc W1 _ _ (Array.getElem?_eq_some_iff.1 hgb1).1]; exact hgb1
    generalize W1.alloc (.cells (Array.replicate S (encI 0)) 3) = W2 at hb2 hgc2 hgb2 ⊢
    replace hSw := hb2
    refine ⟨hSw, hK _ _ ?_⟩
    clear hK K hb2
    iterate 1
      refine lexS_step (fun K hK => ?_)
      simp only [lexOp, List.getElem?_toArray, List.getElem?_cons_succ, List.getElem?_cons_zero]
      rw [if_pos (by rfl)]
      apply Exists.intro
      refine ⟨fun w' hS' => ?_, hSw, ?_⟩
      · first | (go_simp <;> with_reducible rfl) | (go_simp; go_bits; with_reducible rfl)
      go_simp
      try go_bits
      refine hK _ _ ?_
      clear hK K
    refine lexS_step (fun K hK => ?_)
    simp only [lexOp, List.getElem?_toArray, List.getElem?_cons_succ, List.getElem?_cons_zero]
    rw [if_pos (by rfl)]
    go_step
    have HF := Lib.hid (refFlash (L := L) HN.out HOK.out hgb2 hgc2 (by omega) hn1.2)
    have hb5 : Below W0.heap.size W0 (W2.alloc (.cells (newCells S Z L n W0.heap.size W1.heap.size n S) 53)) := hSw.alloc hSw.size _
    have HG := Lib.hid (show W0.heap.size ≤ W2.heap.size ∧ W0.heap.size ≤ W0.heap.size ∧ W0.heap.size ≤ W1.heap.size ∧ w.heap.size ≤ W0.heap.size from ⟨hSw.size, by omega, by omega, HB0.out.size⟩)
    refine ⟨hb5, hK _ _ ?_⟩
    clear hK K
    refine lexS_stir (fun y => y = W2.alloc (.cells (newCells S Z L n W0.heap.size W1.heap.size n S) 53)) (fun y hy => hy ▸ hb5) rfl ?_
    have HB5 := Lib.hid hb5
    generalize hg : W2.heap.size = g at HF HG ⊢
    iterate 1
      refine stir_step (fun K hK => ?_)
      simp only [stirOp, List.getElem?_toArray, List.getElem?_cons_succ, List.getElem?_cons_zero]
      rw [if_pos (by rfl)]
      apply Exists.intro
      refine ⟨fun w' hS' => ?_, ?_⟩
      · first | (go_simp <;> with_reducible rfl) | (go_simp; go_bits; with_reducible rfl)
      go_simp
      try go_bits
      refine hK _ ?_
      clear hK K
    refine stir_nil (fun y hy => ?_)
    generalize hW3 : W2.alloc (.cells (newCells S Z L n W0.heap.size W1.heap.size n S) 53) = W3 at HF HB5 hy
    subst hy
    clear hW3 hg hSw hb5 L0 L1 L2 hmk hmb hgb2 hgc2
    obtain ⟨gb, hgbe⟩ : ∃ x, x = W0.heap.size := ⟨_, rfl⟩
    obtain ⟨gc, hgce⟩ : ∃ x, x = W1.heap.size := ⟨_, rfl⟩
    rw [← hgbe, ← hgce] at HF
    replace HG := Lib.hid (show W0.heap.size ≤ g ∧ W0.heap.size ≤ gb ∧ W0.heap.size ≤ gc ∧ w.heap.size ≤ W0.heap.size by rw [hgbe, hgce]; exact HG.out)
    clear hgbe hgce
    obtain ⟨c0, c1, c2, c3, c4, c5, c6, c7, c8⟩ := HF.out.cells
    rw [show (mkz S Z L 0).S * (mkz S Z L 0).Z = n from HN.out] at c3
    clear c0 c1 c2 c4 c5 c6 c7 c8
    go_wp2_with fail
    go_loopg [22] n (fun gn i wr => ∃ j : Nat, j ≤ n ∧ gn = n - j ∧ i = .int .i64 j ∧ Hid (FlB wr g gb gc n S (mkz S Z L j)) ∧ Hid (Below W0.heap.size W0 wr))
    case atStart => exact ⟨0, by omega, by omega, by go_num, HF, HB5⟩
    case round =>
      obtain ⟨j, hj, rfl, rfl, HF4, HB4⟩ := hrel
      clear HF c3
      obtain ⟨c0, c1, c2, c3, c4, c5, c6, c7, c8⟩ := HF4.out.cells
      rw [show (mkz S Z L j).S * (mkz S Z L j).Z = n from HN.out] at c3
      clear c0 c1 c2 c4 c5 c6 c7 c8
      by_cases hjn : j < n
      · obtain ⟨hm4, hm5⟩ := HF4.out.byte j (by rw [mkz_len (by rw [HN.out]; exact hj), HN.out]; exact hjn)
        have HF5 := Lib.hid (show FlB (wr.setCell ⟨gb, j, none⟩ (encB 255)) g gb gc n S (mkz S Z L (j + 1)) by
          rw [← mkz_step (by rw [HN.out]; exact hjn)]; exact HF4.out.setByte j 255)
        have HB5 := Lib.hid (HB4.out.setCell (p := ⟨gb, j, none⟩) HG.out.2.1 (encB 255))
        go_wp2_with fail
        go_roundg (n - (j + 1))
        case measure => omega
        case rel => exact ⟨j + 1, by omega, rfl, by go_num, HF5, HB5⟩
      · obtain rfl : j = n := by omega
        have HF5 := Lib.hid (show FlB wr g gb gc j S (Fl.mk0 S Z L) by rw [← mkz_end, HN.out]; exact HF4.out)
        go_wp2_with fail
        go_ret
        obtain ⟨q1, q2, q3, q4⟩ := HG.out
        exact ⟨g, gb, gc, j, S, rfl, ⟨HF5.out, by omega, by omega, by omega⟩, HB0.out.trans (HB4.out.mono q4)⟩
  · intro K hK
    simp only [lexOp, List.getElem?_toArray, List.getElem?_cons_succ, List.getElem?_cons_zero]
    rw [if_pos (by rfl)]
    go_step
    have hb1 : Below W0.heap.size W0 (W0.alloc (.cells (Array.replicate S (encI 0)) 3)) := hSw.alloc hSw.size _
    have hgc1 := heap_alloc_last W0 (.cells (Array.replicate S (encI 0)) 3)
    have hs1 : W0.heap.size < (W0.alloc (.cells (Array.replicate S (encI 0)) 3)).heap.size := by simp
    generalize W0.alloc (.cells (Array.replicate S (encI 0)) 3) = W1 at hb1 hgc1 hs1 ⊢
    replace hSw := hb1
    refine ⟨hSw, hK _ _ ?_⟩
    clear hK K hb1
    refine lexS_step (fun K hK => ?_)
    simp only [lexOp, List.getElem?_toArray, List.getElem?_cons_succ, List.getElem?_cons_zero]
    rw [if_pos (by rfl)]
    go_step
    have hb2 : Below W0.heap.size W0 (W1.alloc (.cells (Array.replicate n (encB 0)) 5)) := hSw.alloc hSw.size _
    have hgb2 := heap_alloc_last W1 (.cells (Array.replicate n (encB 0)) 5)
    have hgc2 : (W1.alloc (.cells (Array.replicate n (encB 0)) 5)).heap[W0.heap.size]? = some (.cells (Array.replicate S (encI 0)) 3) := by
      rw [Below.heap_alloc W1 _ _ (Array.getElem?_eq_some_iff.1 hgc1).1]; exact hgc1
    generalize W1.alloc (.cells (Array.replicate n (encB 0)) 5) = W2 at hb2 hgc2 hgb2 ⊢
    replace hSw := hb2
    refine ⟨hSw, hK _ _ ?_⟩
    clear hK K hb2
    iterate 1
      refine lexS_step (fun K hK => ?_)
      simp only [lexOp, List.getElem?_toArray, List.getElem?_cons_succ, List.getElem?_cons_zero]
      rw [if_pos (by rfl)]
      apply Exists.intro
      refine ⟨fun w' hS' => ?_, hSw, ?_⟩
      · first | (go_simp <;> with_reducible rfl) | (go_simp; go_bits; with_reducible rfl)
      go_simp
      try go_bits
      refine hK _ _ ?_
      clear hK K
    refine lexS_step (fun K hK => ?_)
    simp only [lexOp, List.getElem?_toArray, List.getElem?_cons_succ, List.getElem?_cons_zero]
    rw [if_pos (by rfl)]
    go_step
    have HF := Lib.hid (refFlash (L := L) HN.out HOK.out hgb2 hgc2 (by omega) hn1.2)
    have hb5 : Below W0.heap.size W0 (W2.alloc (.cells (newCells S Z L n W1.heap.size W0.heap.size n S) 53)) := hSw.alloc hSw.size _
    have HG := Lib.hid (show W0.heap.size ≤ W2.heap.size ∧ W0.heap.size ≤ W1.heap.size ∧ W0.heap.size ≤ W0.heap.size ∧ w.heap.size ≤ W0.heap.size from ⟨hSw.size, by omega, by omega, HB0.out.size⟩)
    refine ⟨hb5, hK _ _ ?_⟩
    clear hK K
    refine lexS_stir (fun y => y = W2.alloc (.cells (newCells S Z L n W1.heap.size W0.heap.size n S) 53)) (fun y hy => hy ▸ hb5) rfl ?_
    have HB5 := Lib.hid hb5
    generalize hg : W2.heap.size = g at HF HG ⊢
    iterate 1
      refine stir_step (fun K hK => ?_)
      simp only [stirOp, List.getElem?_toArray, List.getElem?_cons_succ, List.getElem?_cons_zero]
      rw [if_pos (by rfl)]
      apply Exists.intro
      refine ⟨fun w' hS' => ?_, ?_⟩
      · first | (go_simp <;> with_reducible rfl) | (go_simp; go_bits; with_reducible rfl)
      go_simp
      try go_bits
      refine hK _ ?_
      clear hK K
    refine stir_nil (fun y hy => ?_)
    generalize hW3 : W2.alloc (.cells (newCells S Z L n W1.heap.size W0.heap.size n S) 53) = W3 at HF HB5 hy
    subst hy
    clear hW3 hg hSw hb5 L0 L1 L2 hmk hmb hgb2 hgc2
    obtain ⟨gb, hgbe⟩ : ∃ x, x = W1.heap.size := ⟨_, rfl⟩
    obtain ⟨gc, hgce⟩ : ∃ x, x = W0.heap.size := ⟨_, rfl⟩
    rw [← hgbe, ← hgce] at HF
    replace HG := Lib.hid (show W0.heap.size ≤ g ∧ W0.heap.size ≤ gb ∧ W0.heap.size ≤ gc ∧ w.heap.size ≤ W0.heap.size by rw [hgbe, hgce]; exact HG.out)
    clear hgbe hgce
    obtain ⟨c0, c1, c2, c3, c4, c5, c6, c7, c8⟩ := HF.out.cells
    rw [show (mkz S Z L 0).S * (mkz S Z L 0).Z = n from HN.out] at c3
    clear c0 c1 c2 c4 c5 c6 c7 c8
    go_wp2_with fail
    go_loopg [22] n (fun gn i wr => ∃ j : Nat, j ≤ n ∧ gn = n - j ∧ i = .int .i64 j ∧ Hid (FlB wr g gb gc n S (mkz S Z L j)) ∧ Hid (Below W0.heap.size W0 wr))
    case atStart => exact ⟨0, by omega, by omega, by go_num, HF, HB5⟩
    case round =>
      obtain ⟨j, hj, rfl, rfl, HF4, HB4⟩ := hrel
      clear HF c3
      obtain ⟨c0, c1, c2, c3, c4, c5, c6, c7, c8⟩ := HF4.out.cells
      rw [show (mkz S Z L j).S * (mkz S Z L j).Z = n from HN.out] at c3
      clear c0 c1 c2 c4 c5 c6 c7 c8
      by_cases hjn : j < n
      · obtain ⟨hm4, hm5⟩ := HF4.out.byte j (by rw [mkz_len (by rw [HN.out]; exact hj), HN.out]; exact hjn)
        have HF5 := Lib.hid (show FlB (wr.setCell ⟨gb, j, none⟩ (encB 255)) g gb gc n S (mkz S Z L (j + 1)) by
          rw [← mkz_step (by rw [HN.out]; exact hjn)]; exact HF4.out.setByte j 255)
        have HB5 := Lib.hid (HB4.out.setCell (p := ⟨gb, j, none⟩) HG.out.2.1 (encB 255))
        go_wp2_with fail
        go_roundg (n - (j + 1))
        case measure => omega
        case rel => exact ⟨j + 1, by omega, rfl, by go_num, HF5, HB5⟩
      · obtain rfl : j = n := by omega
        have HF5 := Lib.hid (show FlB wr g gb gc j S (Fl.mk0 S Z L) by rw [← mkz_end, HN.out]; exact HF4.out)
        go_wp2_with fail
        go_ret
        obtain ⟨q1, q2, q3, q4⟩ := HG.out
        exact ⟨g, gb, gc, j, S, rfl, ⟨HF5.out, by omega, by omega, by omega⟩, HB0.out.trans (HB4.out.mono q4)⟩
set_option maxRecDepth 100000 in
set_option maxHeartbeats 4000000 in
theorem Right_any (w : World) (S Z L : Int) : Calls Try.prog 17 #[.agg #[.int .i64 S, .int .i64 Z, .int .i64 L]] w fun e w' => e = .returned (.bool (decide (newOk S Z L))) ∧ Below w.heap.size w w' := by
  have H := Lib.hid ((Below.refl w.heap.size w).alloc (Nat.le_refl _) (.cells #[.int .i64 S, .int .i64 Z, .int .i64 L] 25))
  by_cases k0 : 1 ≤ S
  case neg =>
    rw [show decide (newOk S Z L) = false from decide_eq_false (fun h => by obtain ⟨⟨_, _⟩, ⟨_, _⟩, _, _⟩ := h; omega)]
    go_enter Try.func17, Try.ntmps17
    go_wp2_with fail
    go_ret
    exact ⟨rfl, H.out⟩
  by_cases k1 : S ≤ 64
  case neg =>
    rw [show decide (newOk S Z L) = false from decide_eq_false (fun h => by obtain ⟨⟨_, _⟩, ⟨_, _⟩, _, _⟩ := h; omega)]
    go_enter Try.func17, Try.ntmps17
    go_wp2_with fail
    go_ret
    exact ⟨rfl, H.out⟩
  by_cases k2 : 64 ≤ Z
  case neg =>
    rw [show decide (newOk S Z L) = false from decide_eq_false (fun h => by obtain ⟨⟨_, _⟩, ⟨_, _⟩, _, _⟩ := h; omega)]
    go_enter Try.func17, Try.ntmps17
    go_wp2_with fail
    go_ret
    exact ⟨rfl, H.out⟩
  by_cases k3 : Z ≤ 65536
  case neg =>
    rw [show decide (newOk S Z L) = false from decide_eq_false (fun h => by obtain ⟨⟨_, _⟩, ⟨_, _⟩, _, _⟩ := h; omega)]
    go_enter Try.func17, Try.ntmps17
    go_wp2_with fail
    go_ret
    exact ⟨rfl, H.out⟩
  by_cases k4 : 1 ≤ L
  case neg =>
    rw [show decide (newOk S Z L) = false from decide_eq_false (fun h => by obtain ⟨⟨_, _⟩, ⟨_, _⟩, _, _⟩ := h; omega)]
    go_enter Try.func17, Try.ntmps17
    go_wp2_with fail
    go_ret
    exact ⟨rfl, H.out⟩
  by_cases k5 : L ≤ 1048576
  case neg =>
    rw [show decide (newOk S Z L) = false from decide_eq_false (fun h => by obtain ⟨⟨_, _⟩, ⟨_, _⟩, _, _⟩ := h; omega)]
    go_enter Try.func17, Try.ntmps17
    go_wp2_with fail
    go_ret
    exact ⟨rfl, H.out⟩
  rw [show decide (newOk S Z L) = true from decide_eq_true ⟨⟨k0, k1⟩, ⟨k2, k3⟩, k4, k5⟩]
  go_enter Try.func17, Try.ntmps17
  go_wp2_with fail
  go_ret
  exact ⟨rfl, H.out⟩
end Go.Proofs.Ytjlcgffcfhfffaa
