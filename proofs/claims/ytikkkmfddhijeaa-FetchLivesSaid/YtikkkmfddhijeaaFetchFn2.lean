/- fetch: what a job wants. No condition. -/
import Derived.Test.YtikkkmfddhijeaaFetchFn
import Derived.Test.YtikkkmfddhijeaaClone
namespace Go.Proofs.Ytikkkmfddhijeaa
open Go.ChangeShapes Go.WideShapes Go.ChangeAt Go.RowKit
/-- A block of three cells, made ahead of a call, behind it. -/
structure Box3 (w w1 : World) (g : Nat) (x y z : Value) : Prop where
  c0 : w1.cell? ⟨g, 0, none⟩ = some x
  c1 : w1.cell? ⟨g, 1, none⟩ = some y
  c2 : w1.cell? ⟨g, 2, none⟩ = some z
  f0 : w1.frozen? ⟨g, 0, none⟩ = false
  f1 : w1.frozen? ⟨g, 1, none⟩ = false
  f2 : w1.frozen? ⟨g, 2, none⟩ = false
  lt : g < w1.heap.size
theorem Box3.of {w w1 : World} {g : Nat} {x y z : Value} {t : TypeId} (h : w.heap[g]? = some (.cells #[x, y, z] t)) (hb : Below w.heap.size w w1) : Box3 w w1 g x y z := by
  have hlt : g < w.heap.size := (Array.getElem?_eq_some_iff.1 h).1
  have hg : w1.heap[g]? = some (.cells #[x, y, z] t) := by rw [hb.block _ hlt]; exact h
  refine ⟨?_, ?_, ?_, ?_, ?_, ?_, (Array.getElem?_eq_some_iff.1 hg).1⟩
  · rw [cell_of_row w1 _ 0 _ _ _ hg]; rfl
  · rw [cell_of_row w1 _ 1 _ _ _ hg]; rfl
  · rw [cell_of_row w1 _ 2 _ _ _ hg]; rfl
  all_goals (unfold World.frozen?; rw [hg]; rfl)
theorem wantR_yes {s c : Int} {n : Nat} (h : jobOk s c n = true ∧ (n : Int) ≠ s) : wantR s c n = ((n : Int), min c (s - n)) := if_pos h
theorem wantR_no {s c : Int} {n : Nat} (h : ¬(jobOk s c n = true ∧ (n : Int) ≠ s)) : wantR s c n = (0, 0) := if_neg h
theorem jobOk_bounds {s c : Int} {n : Nat} (h : jobOk s c n = true) : 1 ≤ s ∧ s ≤ 65536 ∧ 1 ≤ c ∧ c ≤ 1024 ∧ (n : Int) ≤ s := by
  have := of_decide_eq_true h; omega
set_option maxRecDepth 100000 in
set_option maxHeartbeats 1000000 in
theorem Want_any (w : World) (s c : Int) (a : Option Addr) (n cap : Nat) (hs : IntR s) (hc : IntR c) (hn : n ≤ maxLen) :
    Calls Try.prog 9 #[jobV s c a n cap] w fun e w' => e = .returned (.tuple #[.int .i64 (wantR s c n).1, .int .i64 (wantR s c n).2]) ∧ Below w.heap.size w w' := by
  have HS := Lib.hid hs
  have HC := Lib.hid hc
  have HN := Lib.hid hn
  clear hs hc hn
  by_cases k1 : jobOk s c n = true
  · by_cases k2 : (n : Int) = s
    · rw [wantR_no (by simp [k2])]
      go_enter Try.func9, Try.ntmps9
      go_wp2_with fail
      refine (Check_any _ s c a n cap HS.out HC.out HN.out).mono ?_
      rw [if_pos k1]
      rintro e w1 ⟨rfl, hb1⟩
      obtain ⟨q0, q1, q2, f0, f1, f2, hlt⟩ := Box3.of (heap_alloc_last w _) hb1
      have HB := Lib.hid (((Below.refl w.heap.size w).alloc (Nat.le_refl _) _).trans (hb1.mono (by simp)))
      clear hb1
      have e2 : ((n : Int) == s) = true := by simp [k2]
      clear k1 k2
      go_wp2_with fail
      go_ret2
      exact ⟨rfl, HB.out⟩
    · rw [wantR_yes ⟨k1, k2⟩]
      obtain ⟨j0, j1, j2, j3, j4⟩ := jobOk_bounds k1
      by_cases k3 : s - n < c
      · rw [show min c (s - n) = s - n by omega]
        go_enter Try.func9, Try.ntmps9
        go_wp2_with fail
        refine (Check_any _ s c a n cap HS.out HC.out HN.out).mono ?_
        rw [if_pos k1]
        rintro e w1 ⟨rfl, hb1⟩
        obtain ⟨q0, q1, q2, f0, f1, f2, hlt⟩ := Box3.of (heap_alloc_last w _) hb1
        have HB := Lib.hid (((Below.refl w.heap.size w).alloc (Nat.le_refl _) _).trans (hb1.mono (by simp)))
        clear hb1
        have e2 : ((n : Int) == s) = false := by simp [k2]
        clear k1 k2
        go_wp2_with fail
        go_ret2
        exact ⟨rfl, HB.out⟩
      · rw [show min c (s - n) = c by omega]
        go_enter Try.func9, Try.ntmps9
        go_wp2_with fail
        refine (Check_any _ s c a n cap HS.out HC.out HN.out).mono ?_
        rw [if_pos k1]
        rintro e w1 ⟨rfl, hb1⟩
        obtain ⟨q0, q1, q2, f0, f1, f2, hlt⟩ := Box3.of (heap_alloc_last w _) hb1
        have HB := Lib.hid (((Below.refl w.heap.size w).alloc (Nat.le_refl _) _).trans (hb1.mono (by simp)))
        clear hb1
        have e2 : ((n : Int) == s) = false := by simp [k2]
        clear k1 k2
        go_wp2_with fail
        go_ret2
        exact ⟨rfl, HB.out⟩
  · rw [wantR_no (by simp [k1])]
    go_enter Try.func9, Try.ntmps9
    go_wp2_with fail
    refine (Check_any _ s c a n cap HS.out HC.out HN.out).mono ?_
    rw [if_neg k1]
    rintro e w1 ⟨rfl, hb1⟩
    obtain ⟨q0, q1, q2, f0, f1, f2, hlt⟩ := Box3.of (heap_alloc_last w _) hb1
    have HB := Lib.hid (((Below.refl w.heap.size w).alloc (Nat.le_refl _) _).trans (hb1.mono (by simp)))
    clear hb1
    clear k1
    go_wp2_with fail
    go_ret2
    exact ⟨rfl, HB.out⟩

set_option maxRecDepth 100000 in
set_option maxHeartbeats 1000000 in
theorem refWant_any (w : World) (s c : Int) (a : Option Addr) (n cap : Nat) (hs : IntR s) (hc : IntR c) (hn : n ≤ maxLen) :
    Calls Try.prog 10 #[jobV s c a n cap] w fun e w' => e = .returned (.tuple #[.int .i64 (wantR s c n).1, .int .i64 (wantR s c n).2]) ∧ Below w.heap.size w w' := by
  have HS := Lib.hid hs
  have HC := Lib.hid hc
  have HN := Lib.hid hn
  clear hs hc hn
  by_cases k1 : jobOk s c n = true
  · by_cases k2 : (n : Int) = s
    · rw [wantR_no (by simp [k2])]
      go_enter Try.func10, Try.ntmps10
      go_wp2_with fail
      refine (refRight_any _ s c a n cap HS.out HC.out HN.out).mono ?_
      rw [k1]
      rintro e w1 ⟨rfl, hb1⟩
      obtain ⟨q0, q1, q2, f0, f1, f2, hlt⟩ := Box3.of (heap_alloc_last w _) hb1
      have HB := Lib.hid (((Below.refl w.heap.size w).alloc (Nat.le_refl _) _).trans (hb1.mono (by simp)))
      clear hb1
      have e2 : ((n : Int) == s) = true := by simp [k2]
      clear k1 k2
      go_wp2_with fail
      go_ret2
      exact ⟨rfl, HB.out⟩
    · rw [wantR_yes ⟨k1, k2⟩]
      obtain ⟨j0, j1, j2, j3, j4⟩ := jobOk_bounds k1
      by_cases k3 : s - n < c
      · rw [show min c (s - n) = s - n by omega]
        go_enter Try.func10, Try.ntmps10
        go_wp2_with fail
        refine (refRight_any _ s c a n cap HS.out HC.out HN.out).mono ?_
        rw [k1]
        rintro e w1 ⟨rfl, hb1⟩
        obtain ⟨q0, q1, q2, f0, f1, f2, hlt⟩ := Box3.of (heap_alloc_last w _) hb1
        have HB := Lib.hid (((Below.refl w.heap.size w).alloc (Nat.le_refl _) _).trans (hb1.mono (by simp)))
        clear hb1
        have e2 : ((n : Int) == s) = false := by simp [k2]
        clear k1 k2
        go_wp2_with fail
        go_quiet (fail)
        go_wp2
        go_ret2
        exact ⟨rfl, bdrewN HB.out _⟩
      · rw [show min c (s - n) = c by omega]
        go_enter Try.func10, Try.ntmps10
        go_wp2_with fail
        refine (refRight_any _ s c a n cap HS.out HC.out HN.out).mono ?_
        rw [k1]
        rintro e w1 ⟨rfl, hb1⟩
        obtain ⟨q0, q1, q2, f0, f1, f2, hlt⟩ := Box3.of (heap_alloc_last w _) hb1
        have HB := Lib.hid (((Below.refl w.heap.size w).alloc (Nat.le_refl _) _).trans (hb1.mono (by simp)))
        clear hb1
        have e2 : ((n : Int) == s) = false := by simp [k2]
        clear k1 k2
        go_wp2_with fail
        go_quiet (fail)
        go_wp2
        go_ret2
        exact ⟨rfl, bdrewN HB.out _⟩
  · rw [wantR_no (by simp [k1])]
    go_enter Try.func10, Try.ntmps10
    go_wp2_with fail
    refine (refRight_any _ s c a n cap HS.out HC.out HN.out).mono ?_
    rw [Bool.not_eq_true _ |>.mp k1]
    rintro e w1 ⟨rfl, hb1⟩
    obtain ⟨q0, q1, q2, f0, f1, f2, hlt⟩ := Box3.of (heap_alloc_last w _) hb1
    have HB := Lib.hid (((Below.refl w.heap.size w).alloc (Nat.le_refl _) _).trans (hb1.mono (by simp)))
    clear hb1
    clear k1
    go_wp2_with fail
    go_ret2
    exact ⟨rfl, HB.out⟩

end Go.Proofs.Ytikkkmfddhijeaa
