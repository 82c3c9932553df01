/- asm: own texts, merged (wip/merge2.py). No condition. -/
import Derived.Test.YtclpkipaehpkdaaGreatDoorQ09AsmNames
set_option linter.unusedVariables false
set_option linter.unusedSimpArgs false
namespace Go.Proofs.YtclpkipaehpkdaaGreatDoor
open Go.ChangeShapes Go.WideShapes Go.ChangeAt Go.RowKit
set_option maxRecDepth 100000 in
set_option maxHeartbeats 4000000 in
theorem within_any (w : World) (n lo hi : Int) : Calls Tryz.prog 176 #[.int .i64 n, .int .i64 lo, .int .i64 hi] w fun e w' => e = .returned (.bool (decide (lo ≤ n ∧ n ≤ hi))) ∧ w = w' := by
  by_cases h1 : lo ≤ n
  · by_cases h2 : n ≤ hi
    · rw [decide_eq_true (And.intro h1 h2)]
      have e1 := decide_eq_true h1
      have e2 := decide_eq_true h2
      go_enter Tryz.func176, Tryz.ntmps176
      go_wp2_with fail
      go_ret
      exact ⟨rfl, rfl⟩
    · rw [decide_eq_false (fun x : lo ≤ n ∧ n ≤ hi => h2 x.2)]
      have e1 := decide_eq_true h1
      have e2 := decide_eq_false h2
      go_enter Tryz.func176, Tryz.ntmps176
      go_wp2_with fail
      go_ret
      exact ⟨rfl, rfl⟩
  · rw [decide_eq_false (fun x : lo ≤ n ∧ n ≤ hi => h1 x.1)]
    have e1 := decide_eq_false h1
    go_enter Tryz.func176, Tryz.ntmps176
    go_wp2_with fail
    go_ret
    exact ⟨rfl, rfl⟩
def FitsRet (r : Bool) (w : World) (e : Ending) (w' : World) : Prop := e = .returned (.bool r) ∧ Below w.heap.size w w'
set_option maxRecDepth 100000 in
set_option maxHeartbeats 4000000 in
theorem fits_0 (w : World) (p : Int) (k : Nat) (x y : Int) : Calls Tryz.prog 156 #[.agg #[.int .i64 p, .int .u8 (k : Nat), .int .i64 x, .int .i64 y], .int .i64 0] w (FitsRet (fitsB ⟨p, k, x, y⟩ 0) w) := by
  by_cases hy : y = 0
  · rw [show fitsB ⟨p, k, x, y⟩ 0 = false from by unfold fitsB; simp [hy]]
    subst hy
    go_enter Tryz.func156, Tryz.ntmps156
    go_wp2_with fail
    go_ret
    exact ⟨rfl, (Below.refl _ _).alloc (Nat.le_refl _) _⟩
  · rw [show fitsB ⟨p, k, x, y⟩ 0 = false from by unfold fitsB; simp [hy]]
    have ey : (y != 0) = true := by simp [hy]
    clear hy
    go_enter Tryz.func156, Tryz.ntmps156
    go_wp2_with fail
    go_ret
    exact ⟨rfl, (Below.refl _ _).alloc (Nat.le_refl _) _⟩
set_option maxRecDepth 100000 in
set_option maxHeartbeats 4000000 in
theorem fits_1 (w : World) (p : Int) (k : Nat) (x y : Int) : Calls Tryz.prog 156 #[.agg #[.int .i64 p, .int .u8 (k : Nat), .int .i64 x, .int .i64 y], .int .i64 1] w (FitsRet (fitsB ⟨p, k, x, y⟩ 1) w) := by
  by_cases hy : y = 0
  · rw [show fitsB ⟨p, k, x, y⟩ 1 = decide (x = 0) from by unfold fitsB; simp [hy]]
    subst hy
    by_cases ha : x = 0
    · subst ha
      go_enter Tryz.func156, Tryz.ntmps156
      go_wp2_with fail
      go_ret
      exact ⟨rfl, (Below.refl _ _).alloc (Nat.le_refl _) _⟩
    · have ea : (x == 0) = false := by simp [ha]
      rw [decide_eq_false ha]
      clear ha
      go_enter Tryz.func156, Tryz.ntmps156
      go_wp2_with fail
      go_ret
      exact ⟨rfl, (Below.refl _ _).alloc (Nat.le_refl _) _⟩
  · rw [show fitsB ⟨p, k, x, y⟩ 1 = false from by unfold fitsB; simp [hy]]
    have ey : (y != 0) = true := by simp [hy]
    clear hy
    go_enter Tryz.func156, Tryz.ntmps156
    go_wp2_with fail
    go_ret
    exact ⟨rfl, (Below.refl _ _).alloc (Nat.le_refl _) _⟩
set_option maxRecDepth 100000 in
set_option maxHeartbeats 4000000 in
theorem fits_2 (w : World) (p : Int) (k : Nat) (x y : Int) : Calls Tryz.prog 156 #[.agg #[.int .i64 p, .int .u8 (k : Nat), .int .i64 x, .int .i64 y], .int .i64 2] w (FitsRet (fitsB ⟨p, k, x, y⟩ 2) w) := by
  by_cases hy : y = 0
  · rw [show fitsB ⟨p, k, x, y⟩ 2 = decide ((0 : Int) ≤ x ∧ x ≤ 255) from by unfold fitsB; simp [hy]]
    subst hy
    have HWI := Lib.hid (fun w' => within_any w' x (0) (255))
    generalize decide ((0 : Int) ≤ x ∧ x ≤ 255) = d at *
    go_enter Tryz.func156, Tryz.ntmps156
    go_wp2_with fail
    refine (HWI.out _).mono ?_
    rintro e w' ⟨rfl, rfl⟩
    go_wp2_with fail
    go_ret
    exact ⟨rfl, (Below.refl _ _).alloc (Nat.le_refl _) _⟩
  · rw [show fitsB ⟨p, k, x, y⟩ 2 = false from by unfold fitsB; simp [hy]]
    have ey : (y != 0) = true := by simp [hy]
    clear hy
    go_enter Tryz.func156, Tryz.ntmps156
    go_wp2_with fail
    go_ret
    exact ⟨rfl, (Below.refl _ _).alloc (Nat.le_refl _) _⟩
set_option maxRecDepth 100000 in
set_option maxHeartbeats 4000000 in
theorem fits_3 (w : World) (p : Int) (k : Nat) (x y : Int) : Calls Tryz.prog 156 #[.agg #[.int .i64 p, .int .u8 (k : Nat), .int .i64 x, .int .i64 y], .int .i64 3] w (FitsRet (fitsB ⟨p, k, x, y⟩ 3) w) := by
  by_cases hy : y = 0
  · rw [show fitsB ⟨p, k, x, y⟩ 3 = decide ((-128 : Int) ≤ x ∧ x ≤ 127) from by unfold fitsB; simp [hy]]
    subst hy
    have HWI := Lib.hid (fun w' => within_any w' x (-128) (127))
    generalize decide ((-128 : Int) ≤ x ∧ x ≤ 127) = d at *
    go_enter Tryz.func156, Tryz.ntmps156
    go_wp2_with fail
    refine (HWI.out _).mono ?_
    rintro e w' ⟨rfl, rfl⟩
    go_wp2_with fail
    go_ret
    exact ⟨rfl, (Below.refl _ _).alloc (Nat.le_refl _) _⟩
  · rw [show fitsB ⟨p, k, x, y⟩ 3 = false from by unfold fitsB; simp [hy]]
    have ey : (y != 0) = true := by simp [hy]
    clear hy
    go_enter Tryz.func156, Tryz.ntmps156
    go_wp2_with fail
    go_ret
    exact ⟨rfl, (Below.refl _ _).alloc (Nat.le_refl _) _⟩
set_option maxRecDepth 100000 in
set_option maxHeartbeats 4000000 in
theorem fits_4 (w : World) (p : Int) (k : Nat) (x y : Int) : Calls Tryz.prog 156 #[.agg #[.int .i64 p, .int .u8 (k : Nat), .int .i64 x, .int .i64 y], .int .i64 4] w (FitsRet (fitsB ⟨p, k, x, y⟩ 4) w) := by
  by_cases hy : y = 0
  · rw [show fitsB ⟨p, k, x, y⟩ 4 = decide ((-32768 : Int) ≤ x ∧ x ≤ 32767) from by unfold fitsB; simp [hy]]
    subst hy
    have HWI := Lib.hid (fun w' => within_any w' x (-32768) (32767))
    generalize decide ((-32768 : Int) ≤ x ∧ x ≤ 32767) = d at *
    go_enter Tryz.func156, Tryz.ntmps156
    go_wp2_with fail
    refine (HWI.out _).mono ?_
    rintro e w' ⟨rfl, rfl⟩
    go_wp2_with fail
    go_ret
    exact ⟨rfl, (Below.refl _ _).alloc (Nat.le_refl _) _⟩
  · rw [show fitsB ⟨p, k, x, y⟩ 4 = false from by unfold fitsB; simp [hy]]
    have ey : (y != 0) = true := by simp [hy]
    clear hy
    go_enter Tryz.func156, Tryz.ntmps156
    go_wp2_with fail
    go_ret
    exact ⟨rfl, (Below.refl _ _).alloc (Nat.le_refl _) _⟩
set_option maxRecDepth 100000 in
set_option maxHeartbeats 4000000 in
theorem fits_5 (w : World) (p : Int) (k : Nat) (x y : Int) : Calls Tryz.prog 156 #[.agg #[.int .i64 p, .int .u8 (k : Nat), .int .i64 x, .int .i64 y], .int .i64 5] w (FitsRet (fitsB ⟨p, k, x, y⟩ 5) w) := by
  by_cases hy : y = 0
  · rw [show fitsB ⟨p, k, x, y⟩ 5 = decide ((0 : Int) ≤ x ∧ x ≤ 255) from by unfold fitsB; simp [hy]]
    subst hy
    have HWI := Lib.hid (fun w' => within_any w' x (0) (255))
    generalize decide ((0 : Int) ≤ x ∧ x ≤ 255) = d at *
    go_enter Tryz.func156, Tryz.ntmps156
    go_wp2_with fail
    refine (HWI.out _).mono ?_
    rintro e w' ⟨rfl, rfl⟩
    go_wp2_with fail
    go_ret
    exact ⟨rfl, (Below.refl _ _).alloc (Nat.le_refl _) _⟩
  · rw [show fitsB ⟨p, k, x, y⟩ 5 = false from by unfold fitsB; simp [hy]]
    have ey : (y != 0) = true := by simp [hy]
    clear hy
    go_enter Tryz.func156, Tryz.ntmps156
    go_wp2_with fail
    go_ret
    exact ⟨rfl, (Below.refl _ _).alloc (Nat.le_refl _) _⟩
set_option maxRecDepth 100000 in
set_option maxHeartbeats 4000000 in
theorem fits_6 (w : World) (p : Int) (k : Nat) (x y : Int) : Calls Tryz.prog 156 #[.agg #[.int .i64 p, .int .u8 (k : Nat), .int .i64 x, .int .i64 y], .int .i64 6] w (FitsRet (fitsB ⟨p, k, x, y⟩ 6) w) := by
  by_cases hy : y = 0
  · rw [show fitsB ⟨p, k, x, y⟩ 6 = decide ((0 : Int) ≤ x ∧ x ≤ 65535) from by unfold fitsB; simp [hy]]
    subst hy
    have HWI := Lib.hid (fun w' => within_any w' x (0) (65535))
    generalize decide ((0 : Int) ≤ x ∧ x ≤ 65535) = d at *
    go_enter Tryz.func156, Tryz.ntmps156
    go_wp2_with fail
    refine (HWI.out _).mono ?_
    rintro e w' ⟨rfl, rfl⟩
    go_wp2_with fail
    go_ret
    exact ⟨rfl, (Below.refl _ _).alloc (Nat.le_refl _) _⟩
  · rw [show fitsB ⟨p, k, x, y⟩ 6 = false from by unfold fitsB; simp [hy]]
    have ey : (y != 0) = true := by simp [hy]
    clear hy
    go_enter Tryz.func156, Tryz.ntmps156
    go_wp2_with fail
    go_ret
    exact ⟨rfl, (Below.refl _ _).alloc (Nat.le_refl _) _⟩
set_option maxRecDepth 100000 in
set_option maxHeartbeats 4000000 in
theorem fits_7 (w : World) (p : Int) (k : Nat) (x y : Int) : Calls Tryz.prog 156 #[.agg #[.int .i64 p, .int .u8 (k : Nat), .int .i64 x, .int .i64 y], .int .i64 7] w (FitsRet (fitsB ⟨p, k, x, y⟩ 7) w) := by
  by_cases hy : y = 0
  · rw [show fitsB ⟨p, k, x, y⟩ 7 = true from by unfold fitsB; simp [hy]]
    subst hy
    go_enter Tryz.func156, Tryz.ntmps156
    go_wp2_with fail
    go_ret
    exact ⟨rfl, (Below.refl _ _).alloc (Nat.le_refl _) _⟩
  · rw [show fitsB ⟨p, k, x, y⟩ 7 = false from by unfold fitsB; simp [hy]]
    have ey : (y != 0) = true := by simp [hy]
    clear hy
    go_enter Tryz.func156, Tryz.ntmps156
    go_wp2_with fail
    go_ret
    exact ⟨rfl, (Below.refl _ _).alloc (Nat.le_refl _) _⟩
set_option maxRecDepth 100000 in
set_option maxHeartbeats 4000000 in
theorem fits_8 (w : World) (p : Int) (k : Nat) (x y : Int) : Calls Tryz.prog 156 #[.agg #[.int .i64 p, .int .u8 (k : Nat), .int .i64 x, .int .i64 y], .int .i64 8] w (FitsRet (fitsB ⟨p, k, x, y⟩ 8) w) := by
  rw [show fitsB ⟨p, k, x, y⟩ 8 = (decide ((0 : Int) ≤ x ∧ x ≤ 255) && decide ((-128 : Int) ≤ y ∧ y ≤ 127)) from by unfold fitsB; simp]
  have HWI := Lib.hid (fun w' => within_any w' x 0 255)
  have HWJ := Lib.hid (fun w' => within_any w' y (-128) 127)
  generalize decide ((0 : Int) ≤ x ∧ x ≤ 255) = d at *
  generalize decide ((-128 : Int) ≤ y ∧ y ≤ 127) = d2 at *
  cases d
  · go_enter Tryz.func156, Tryz.ntmps156
    go_wp2_with fail
    refine (HWI.out _).mono ?_
    rintro e w' ⟨rfl, rfl⟩
    go_wp2_with fail
    go_ret
    exact ⟨rfl, (Below.refl _ _).alloc (Nat.le_refl _) _⟩
  · go_enter Tryz.func156, Tryz.ntmps156
    go_wp2_with fail
    refine (HWI.out _).mono ?_
    rintro e w' ⟨rfl, rfl⟩
    go_wp2_with fail
    refine (HWJ.out _).mono ?_
    rintro e w' ⟨rfl, rfl⟩
    go_wp2_with fail
    go_ret
    exact ⟨rfl, (Below.refl _ _).alloc (Nat.le_refl _) _⟩
set_option maxRecDepth 100000 in
set_option maxHeartbeats 4000000 in
theorem fits_9 (w : World) (p : Int) (k : Nat) (x y : Int) : Calls Tryz.prog 156 #[.agg #[.int .i64 p, .int .u8 (k : Nat), .int .i64 x, .int .i64 y], .int .i64 9] w (FitsRet (fitsB ⟨p, k, x, y⟩ 9) w) := by
  by_cases hy : y = 0
  · rw [show fitsB ⟨p, k, x, y⟩ 9 = decide (x = 8 ∨ x = 10) from by unfold fitsB; simp [hy]]
    subst hy
    by_cases h8 : x = 8
    · subst h8
      rw [decide_eq_true (.inl rfl)]
      go_enter Tryz.func156, Tryz.ntmps156
      go_wp2_with fail
      go_ret
      exact ⟨rfl, (Below.refl _ _).alloc (Nat.le_refl _) _⟩
    · by_cases h10 : x = 10
      · subst h10
        rw [decide_eq_true (.inr rfl)]
        go_enter Tryz.func156, Tryz.ntmps156
        go_wp2_with fail
        go_ret
        exact ⟨rfl, (Below.refl _ _).alloc (Nat.le_refl _) _⟩
      · have e8 : (x == 8) = false := by simp [h8]
        have e10 : (x == 10) = false := by simp [h10]
        rw [decide_eq_false (fun z : x = 8 ∨ x = 10 => z.elim h8 h10)]
        clear h8 h10
        go_enter Tryz.func156, Tryz.ntmps156
        go_wp2_with fail
        go_ret
        exact ⟨rfl, (Below.refl _ _).alloc (Nat.le_refl _) _⟩
  · rw [show fitsB ⟨p, k, x, y⟩ 9 = false from by unfold fitsB; simp [hy]]
    have ey : (y != 0) = true := by simp [hy]
    clear hy
    go_enter Tryz.func156, Tryz.ntmps156
    go_wp2_with fail
    go_ret
    exact ⟨rfl, (Below.refl _ _).alloc (Nat.le_refl _) _⟩
theorem fits_any (w : World) (r : RW) (f : Nat) (hf : f ≤ 9) : Calls Tryz.prog 156 #[.agg #[.int .i64 r.pos, .int .u8 (r.op : Nat), .int .i64 r.a, .int .i64 r.b], .int .i64 (f : Nat)] w (FitsRet (fitsB r f) w) := by
  obtain ⟨p, k, x, y⟩ := r
  have h : f = 0 ∨ f = 1 ∨ f = 2 ∨ f = 3 ∨ f = 4 ∨ f = 5 ∨ f = 6 ∨ f = 7 ∨ f = 8 ∨ f = 9 := by omega
  rcases h with rfl | rfl | rfl | rfl | rfl | rfl | rfl | rfl | rfl | rfl
  · exact fits_0 w p k x y
  · exact fits_1 w p k x y
  · exact fits_2 w p k x y
  · exact fits_3 w p k x y
  · exact fits_4 w p k x y
  · exact fits_5 w p k x y
  · exact fits_6 w p k x y
  · exact fits_7 w p k x y
  · exact fits_8 w p k x y
  · exact fits_9 w p k x y
end Go.Proofs.YtclpkipaehpkdaaGreatDoor

