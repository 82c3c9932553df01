/- jad.Cmp and the document's. No condition. -/
import Derived.Test.YtlpjcfiibbcdjaaGreatDoorJVars
import Derived.Test.YtlpjcfiibbcdjaaGreatDoorRegionS
import Derived.Deep.LoopGhost
import Derived.Deep.DeepCutAuto
import Derived.StillTailTactics
namespace Go.Proofs.YtlpjcfiibbcdjaaGreatDoor
open Go.ChangeShapes Go.WideShapes Go.ChangeAt Go.RowKit
/-- By the first part that differs. -/
def cmpL : List Int → List Int → Int
  | x :: xs, y :: ys => if Lib.compareInt x y ≠ 0 then Lib.compareInt x y else cmpL xs ys
  | _, _ => 0
set_option maxRecDepth 100000 in
set_option maxHeartbeats 2000000 in
theorem Compare_any (w : World) (g h c1 c2 : Nat) (A B : List Int) (hA : ∀ j (hj : j < A.length), w.cell? ⟨g, j, none⟩ = some (.int .i64 A[j])) (hB : ∀ j (hj : j < B.length), w.cell? ⟨h, j, none⟩ = some (.int .i64 B[j])) (hl : B.length = A.length) (hn : A.length ≤ 65536) :
    Calls Tryz.prog 35 #[.slice (some ⟨g, 0, none⟩) A.length c1, .slice (some ⟨h, 0, none⟩) A.length c2] w fun e w' => e = .returned (.int .i64 (cmpL A B)) ∧ w' = w := by
  obtain ⟨n, hN⟩ : ∃ n, n = A.length := ⟨_, rfl⟩
  rw [← hN] at hn hl ⊢
  obtain ⟨r, hr⟩ : ∃ r, r = cmpL A B := ⟨_, rfl⟩
  rw [← hr]
  have HR := Lib.hid hr
  have HN := Lib.hid (And.intro hN hl)
  have HA := Lib.hid hA
  have HB := Lib.hid hB
  have HC := Lib.hid Cmp_any
  clear hA hB hN hl hr
  go_enter Tryz.func35, Tryz.ntmps35
  go_wp2_with fail
  go_loopg [11] n (fun gn i wr => ∃ j : Nat, j ≤ n ∧ gn = n - j ∧ i = .int .i64 j ∧ Hid (r = cmpL (A.drop j) (B.drop j)) ∧ wr = w)
  case atStart => exact ⟨0, by omega, by omega, by go_num, HR, rfl⟩
  case round =>
    obtain ⟨j, hj, rfl, rfl, HG, rfl⟩ := hrel
    by_cases hlt : j < n
    · have hja : j < A.length := by rw [← HN.out.1]; exact hlt
      have hjb : j < B.length := by rw [HN.out.2]; exact hlt
      have q0 : wr.cell? ⟨g, j, none⟩ = some (.int .i64 A[j]) := HA.out j hja
      have q1 : wr.cell? ⟨h, j, none⟩ = some (.int .i64 B[j]) := HB.out j hjb
      have hcl : r = if Lib.compareInt A[j] B[j] ≠ 0 then Lib.compareInt A[j] B[j] else cmpL (A.drop (j + 1)) (B.drop (j + 1)) := by
        rw [HG.out, List.drop_eq_getElem_cons hja, List.drop_eq_getElem_cons hjb, cmpL]
      have HX := Lib.hid hcl
      have HCX := Lib.hid (fun w => HC.out w A[j] B[j])
      have j1 : (j : Int) < n := by omega
      generalize A[j] = x at *
      generalize B[j] = y at *
      generalize Lib.compareInt x y = q at *
      clear hja hjb hcl
      go_wp2_with fail
      refine (HCX.out wr).mono ?_
      rintro e w' ⟨rfl, rfl⟩
      by_cases hq : q = 0
      · subst hq
        have HM := Lib.hid (show r = cmpL (A.drop (j + 1)) (B.drop (j + 1)) from by rw [HX.out]; simp)
        go_wp2_with fail
        go_roundg (n - (j + 1))
        case measure => omega
        case rel => exact ⟨j + 1, by omega, rfl, by go_num, HM, rfl⟩
      · have HM := Lib.hid (show r = q from by rw [HX.out]; simp [hq])
        go_wp2_with fail
        go_ret
        exact ⟨ret_int HM.out.symm, rfl⟩
    · obtain rfl : j = n := by omega
      have HM := Lib.hid (show r = 0 from by rw [HG.out, List.drop_eq_nil_of_le (by rw [← HN.out.1]; exact Nat.le_refl _)]; rfl)
      go_wp2_with fail
      go_ret
      exact ⟨ret_int HM.out.symm, rfl⟩
def EqWc (x y : World) : Prop := y = x
set_option maxRecDepth 100000 in
set_option maxHeartbeats 2000000 in
theorem Cmp3_any (w : World) (a b c x y z : Int) :
    Calls Tryz.prog 14 #[.agg #[.int .i64 a, .int .i64 b, .int .i64 c], .agg #[.int .i64 x, .int .i64 y, .int .i64 z]] w fun e w' => e = .returned (.int .i64 (cmpL [a, b, c] [x, y, z])) ∧ Below w.heap.size w w' := by
  have hb1 : Below w.heap.size w ((w.alloc (.cells #[.int .i64 a, .int .i64 b, .int .i64 c] 23)).alloc (.cells #[.int .i64 x, .int .i64 y, .int .i64 z] 23)) := ((Below.refl _ _).alloc (Nat.le_refl _) _).alloc (by simp) _
  have HB := Lib.hid hb1
  have HC := Lib.hid (fun (W : World) (d : Nat) (hd : d = w.heap.size + 1) (hW : ∀ j (hj : j < [a, b, c].length), W.cell? ⟨w.heap.size, j, none⟩ = some (.int .i64 [a, b, c][j])) (hW2 : ∀ j (hj : j < [x, y, z].length), W.cell? ⟨d, j, none⟩ = some (.int .i64 [x, y, z][j])) => show Calls Tryz.prog 35 #[.slice (some ⟨w.heap.size, 0, none⟩) 3 3, .slice (some ⟨d, 0, none⟩) 3 3] W fun e w' => e = .returned (.int .i64 (cmpL [a, b, c] [x, y, z])) ∧ w' = W from Compare_any W w.heap.size d 3 3 [a, b, c] [x, y, z] hW hW2 rfl (by simp))
  obtain ⟨r, hr⟩ : ∃ r, r = cmpL [a, b, c] [x, y, z] := ⟨_, rfl⟩
  rw [← hr] at HC ⊢
  clear hb1 hr
  go_enter Tryz.func14, Tryz.ntmps14
  go_upto_region 1 with fail
  have hW : ∀ j (hj : j < [a, b, c].length), ((w.alloc (.cells #[.int .i64 a, .int .i64 b, .int .i64 c] 23)).alloc (.cells #[.int .i64 x, .int .i64 y, .int .i64 z] 23)).cell? ⟨w.heap.size, j, none⟩ = some (.int .i64 [a, b, c][j]) := by
    intro j hj
    refine cell_below (w := w.alloc (.cells #[.int .i64 a, .int .i64 b, .int .i64 c] 23)) ?_ ((Below.refl _ _).alloc (Nat.le_refl _) _)
    rw [cell_of_row _ w.heap.size j _ _ _ (heap_alloc_last w _)]
    have : j = 0 ∨ j = 1 ∨ j = 2 := by simp at hj; omega
    rcases this with rfl | rfl | rfl <;> rfl
  have hW2 : ∀ j (hj : j < [x, y, z].length), ((w.alloc (.cells #[.int .i64 a, .int .i64 b, .int .i64 c] 23)).alloc (.cells #[.int .i64 x, .int .i64 y, .int .i64 z] 23)).cell? ⟨w.heap.size + 1, j, none⟩ = some (.int .i64 [x, y, z][j]) := by
    intro j hj
    rw [show w.heap.size + 1 = (w.alloc (.cells #[.int .i64 a, .int .i64 b, .int .i64 c] 23)).heap.size by simp, cell_of_row _ _ j _ _ _ (heap_alloc_last _ _)]
    have : j = 0 ∨ j = 1 ∨ j = 2 := by simp at hj; omega
    rcases this with rfl | rfl | rfl <;> rfl
  generalize ((w.alloc (.cells #[.int .i64 a, .int .i64 b, .int .i64 c] 23)).alloc (.cells #[.int .i64 x, .int .i64 y, .int .i64 z] 23)) = W at *
  have HW := Lib.hid (show ∀ w', w' = W.drew → Calls Tryz.prog 35 #[.slice (some ⟨w.heap.size, 0, none⟩) 3 3, .slice (some ⟨w.heap.size + 1, 0, none⟩) 3 3] w' fun e w'' => e = .returned (.int .i64 r) ∧ w'' = w' from fun w' h => h ▸ HC.out W.drew (w.heap.size + 1) rfl hW hW2)
  clear hW hW2 HC
  refine wp_region_lexS (EqWc W.drew) (.stir [(0, true), (1, true), (2, false), (3, true)]) (by kernel_rfl) (by kernel_rfl) (fun c a d v w h => by cases d <;> exact h) ?_
  refine lexS_stir (EqWc W.drew) (fun y hy => hy) rfl ?_
  iterate 2
    refine stir_step (fun K hK => ?_)
    simp only [stirOp, List.getElem?_toArray, List.getElem?_cons_succ, List.getElem?_cons_zero]
    rw [if_pos (by rfl)]
    apply Exists.intro
    refine ⟨fun w' hS' => ?_, ?_⟩
    · first | (go_simp <;> with_reducible rfl) | (go_simp; go_bits; with_reducible rfl)
    go_simp
    try go_bits
    refine hK _ ?_
    clear hK K
  refine stir_step (fun K hK => ?_)
  simp only [stirOp, List.getElem?_toArray, List.getElem?_cons_succ, List.getElem?_cons_zero]
  rw [if_pos (by rfl)]
  apply Exists.intro
  refine ⟨fun w' hS' => ?_, ?_⟩
  · go_simp
    exact Stirs.call (Calls.mono (HW.out w' hS') fun e w'' h => ⟨h.1, (fun hb'' => (by rw [hb'']; exact hS')) h.2⟩)
  go_simp
  refine hK _ ?_
  clear hK K
  iterate 1
    refine stir_step (fun K hK => ?_)
    simp only [stirOp, List.getElem?_toArray, List.getElem?_cons_succ, List.getElem?_cons_zero]
    rw [if_pos (by rfl)]
    apply Exists.intro
    refine ⟨fun w' hS' => ?_, ?_⟩
    · first | (go_simp <;> with_reducible rfl) | (go_simp; go_bits; with_reducible rfl)
    go_simp
    try go_bits
    refine hK _ ?_
    clear hK K
  refine stir_nil (fun y hy => ?_)
  obtain rfl : W.drew = y := hy.symm
  go_wp2_with fail
  go_ret
  exact ⟨rfl, HB.out.drew⟩
set_option maxRecDepth 100000 in
set_option maxHeartbeats 2000000 in
theorem refCmp_any (w : World) (a b c x y z : Int) :
    Calls Tryz.prog 15 #[.agg #[.int .i64 a, .int .i64 b, .int .i64 c], .agg #[.int .i64 x, .int .i64 y, .int .i64 z]] w fun e w' => e = .returned (.int .i64 (cmpL [a, b, c] [x, y, z])) ∧ Below w.heap.size w w' := by
  have hb1 : Below w.heap.size w ((w.alloc (.cells #[.int .i64 a, .int .i64 b, .int .i64 c] 23)).alloc (.cells #[.int .i64 x, .int .i64 y, .int .i64 z] 23)) := ((Below.refl _ _).alloc (Nat.le_refl _) _).alloc (by simp) _
  have HB := Lib.hid hb1
  obtain ⟨r, hr⟩ : ∃ r, r = cmpL [a, b, c] [x, y, z] := ⟨_, rfl⟩
  rw [← hr]
  have HR := Lib.hid hr
  clear hb1 hr
  have hW : ∀ j (hj : j < [a, b, c].length), ((w.alloc (.cells #[.int .i64 a, .int .i64 b, .int .i64 c] 23)).alloc (.cells #[.int .i64 x, .int .i64 y, .int .i64 z] 23)).cell? ⟨w.heap.size, j, none⟩ = some (.int .i64 [a, b, c][j]) := by
    intro j hj
    refine cell_below (w := w.alloc (.cells #[.int .i64 a, .int .i64 b, .int .i64 c] 23)) ?_ ((Below.refl _ _).alloc (Nat.le_refl _) _)
    rw [cell_of_row _ w.heap.size j _ _ _ (heap_alloc_last w _)]
    have : j = 0 ∨ j = 1 ∨ j = 2 := by simp at hj; omega
    rcases this with rfl | rfl | rfl <;> rfl
  have hW2 : ∀ j (hj : j < [x, y, z].length), ((w.alloc (.cells #[.int .i64 a, .int .i64 b, .int .i64 c] 23)).alloc (.cells #[.int .i64 x, .int .i64 y, .int .i64 z] 23)).cell? ⟨w.heap.size + 1, j, none⟩ = some (.int .i64 [x, y, z][j]) := by
    intro j hj
    rw [show w.heap.size + 1 = (w.alloc (.cells #[.int .i64 a, .int .i64 b, .int .i64 c] 23)).heap.size by simp, cell_of_row _ _ j _ _ _ (heap_alloc_last _ _)]
    have : j = 0 ∨ j = 1 ∨ j = 2 := by simp at hj; omega
    rcases this with rfl | rfl | rfl <;> rfl
  have HA := Lib.hid hW
  have HB2 := Lib.hid hW2
  clear hW hW2
  go_enter Tryz.func15, Tryz.ntmps15
  go_upto_region 1 with fail
  generalize ((w.alloc (.cells #[.int .i64 a, .int .i64 b, .int .i64 c] 23)).alloc (.cells #[.int .i64 x, .int .i64 y, .int .i64 z] 23)) = W at *
  obtain ⟨A, hAe⟩ : ∃ A, A = [a, b, c] := ⟨_, rfl⟩
  obtain ⟨B, hBe⟩ : ∃ B, B = [x, y, z] := ⟨_, rfl⟩
  have HLA := Lib.hid (show A.length = 3 by rw [hAe]; rfl)
  have HLB := Lib.hid (show B.length = 3 by rw [hBe]; rfl)
  rw [← hAe, ← hBe] at HR
  rw [← hAe] at HA
  rw [← hBe] at HB2
  clear hAe hBe
  go_wp2_with fail
  go_loopg [6] 3 (fun gn i wr => ∃ j : Nat, j ≤ 3 ∧ gn = 3 - j ∧ i = .int .i64 j ∧ Hid (r = cmpL (A.drop j) (B.drop j)) ∧ Hid (wr.heap = W.heap) ∧ Hid (Below w.heap.size w wr))
  case atStart => exact ⟨0, by omega, by omega, by go_num, HR, Lib.hid rfl, HB⟩
  case round =>
    obtain ⟨j, hj, rfl, rfl, HG, HH, HBW⟩ := hrel
    by_cases hlt : j < 3
    · have hja : j < A.length := by rw [HLA.out]; exact hlt
      have hjb : j < B.length := by rw [HLB.out]; exact hlt
      have q0 : ∀ V : World, V.heap = W.heap → V.cell? ⟨w.heap.size, j, none⟩ = some (.int .i64 A[j]) := fun V h => by unfold World.cell?; rw [h]; exact HA.out j hja
      have q1 : ∀ V : World, V.heap = W.heap → V.cell? ⟨w.heap.size + 1, j, none⟩ = some (.int .i64 B[j]) := fun V h => by unfold World.cell?; rw [h]; exact HB2.out j hjb
      have hcl : r = if Lib.compareInt A[j] B[j] ≠ 0 then Lib.compareInt A[j] B[j] else cmpL (A.drop (j + 1)) (B.drop (j + 1)) := by
        rw [HG.out, List.drop_eq_getElem_cons hja, List.drop_eq_getElem_cons hjb, cmpL]
      have HX := Lib.hid hcl
      have j1 : (j : Int) < 3 := by omega
      generalize A[j] = p at *
      generalize B[j] = q at *
      have Q0 := Lib.hid q0
      have Q1 := Lib.hid q1
      clear hja hjb hcl q0 q1
      have q2 := Q0.out wr HH.out
      have q3 := Q1.out wr HH.out
      go_upto_region 4 with fail
      go_quiet (fail)
      have HH2 := Lib.hid (show (wr.drewN nq).heap = W.heap by rw [dn_heap]; exact HH.out)
      have HBW2 := Lib.hid (HBW.out.trans ((below_dn wr nq).mono HBW.out.size))
      clear q2 q3 HH HBW
      generalize wr.drewN nq = wr2 at *
      by_cases h1 : p < q
      · have HM := Lib.hid (show r = -1 from by rw [HX.out]; simp [Lib.compareInt, h1])
        go_wp2_with fail
        go_ret
        exact ⟨ret_int HM.out.symm, HBW2.out⟩
      · have q2 := Q0.out wr2 HH2.out
        have q3 := Q1.out wr2 HH2.out
        go_upto_region 6 with fail
        go_quiet (fail)
        have HH3 := Lib.hid (show (wr2.drewN nq).heap = W.heap by rw [dn_heap]; exact HH2.out)
        have HBW3 := Lib.hid (HBW2.out.trans ((below_dn wr2 nq).mono HBW2.out.size))
        clear q2 q3 HH2 HBW2
        generalize wr2.drewN nq = wr3 at *
        by_cases h2 : q < p
        · have HM := Lib.hid (show r = 1 from by rw [HX.out]; simp [Lib.compareInt, h1, h2])
          go_wp2_with fail
          go_ret
          exact ⟨ret_int HM.out.symm, HBW3.out⟩
        · have HM := Lib.hid (show r = cmpL (A.drop (j + 1)) (B.drop (j + 1)) from by rw [HX.out]; simp [Lib.compareInt, h1, h2])
          go_wp2_with fail
          go_roundg (3 - (j + 1))
          case measure => omega
          case rel => exact ⟨j + 1, by omega, rfl, by go_num, HM, HH3, HBW3⟩
    · obtain rfl : j = 3 := by omega
      have HM := Lib.hid (show r = 0 from by rw [HG.out, List.drop_eq_nil_of_le (by rw [HLA.out]; exact Nat.le_refl _)]; rfl)
      go_wp2_with fail
      go_ret
      exact ⟨ret_int HM.out.symm, HBW.out⟩
end Go.Proofs.YtlpjcfiibbcdjaaGreatDoor
