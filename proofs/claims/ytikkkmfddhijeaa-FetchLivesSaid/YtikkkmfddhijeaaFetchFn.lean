/- fetch: what a job may be, what it wants, how many chunks it has; copies of bytes. No condition. -/
import Derived.Test.YtikkkmfddhijeaaCrcPlain
import Derived.Test.YtikkkmfddhijeaaLib3
import Derived.Test.YtikkkmfddhijeaaRegion2
namespace Go.Proofs.Ytikkkmfddhijeaa
open Go.ChangeShapes Go.WideShapes Go.ChangeAt Go.RowKit
def IntR (x : Int) : Prop := -9223372036854775808 ≤ x ∧ x ≤ 9223372036854775807
theorem oneN : OneE 22 5 (.int .u8 0) 1 := ⟨by kernel_rfl, by kernel_rfl, rfl⟩
/-- May a job be? -/
def jobOk (s c : Int) (n : Nat) : Bool := decide (1 ≤ s ∧ s ≤ 65536 ∧ 1 ≤ c ∧ c ≤ 1024 ∧ ((n : Int) = s ∨ (n : Int) < s ∧ Int.tmod n c = 0))
/-- What a job wants. -/
def wantR (s c : Int) (n : Nat) : Int × Int := if jobOk s c n = true ∧ (n : Int) ≠ s then ((n : Int), min c (s - n)) else (0, 0)
abbrev jobV (s c : Int) (a : Option Addr) (n cap : Nat) : Value := .agg #[.int .i64 s, .int .i64 c, .slice a n cap]
theorem tmod_bounds {n : Nat} {c : Int} (h : 1 ≤ c) : 0 ≤ Int.tmod n c ∧ Int.tmod n c < c := by
  rw [Int.tmod_eq_emod_of_nonneg (Int.natCast_nonneg n)]
  exact ⟨Int.emod_nonneg _ (by omega), Int.emod_lt_of_pos _ (by omega)⟩
theorem eq_no5 {a b : Int} (h : ¬ a = b) : (a == b) = false := by simp [h]
set_option maxRecDepth 100000 in
set_option maxHeartbeats 1000000 in
theorem Check_any (w : World) (s c : Int) (a : Option Addr) (n cap : Nat) (hs : IntR s) (hc : IntR c) (hn : n ≤ maxLen) :
    Calls Try.prog 15 #[jobV s c a n cap] w fun e w' => e = .returned (.int .i64 (if jobOk s c n = true then 0 else 1)) ∧ Below w.heap.size w w' := by
  obtain ⟨s0, s1⟩ := hs
  obtain ⟨c0, c1⟩ := hc
  unfold maxLen at hn
  by_cases k1 : s < 1
  · have hr : jobOk s c n = false := decide_eq_false (by omega)
    rw [hr]
    go_enter Try.func15, Try.ntmps15
    go_wp2_with fail
    go_ret
    exact ⟨rfl, (Below.refl _ _).alloc (Nat.le_refl _) _⟩
  by_cases k2 : 65536 < s
  · have hr : jobOk s c n = false := decide_eq_false (by omega)
    rw [hr]
    go_enter Try.func15, Try.ntmps15
    go_wp2_with fail
    go_ret
    exact ⟨rfl, (Below.refl _ _).alloc (Nat.le_refl _) _⟩
  by_cases k3 : c < 1
  · have hr : jobOk s c n = false := decide_eq_false (by omega)
    rw [hr]
    go_enter Try.func15, Try.ntmps15
    go_wp2_with fail
    go_ret
    exact ⟨rfl, (Below.refl _ _).alloc (Nat.le_refl _) _⟩
  by_cases k4 : 1024 < c
  · have hr : jobOk s c n = false := decide_eq_false (by omega)
    rw [hr]
    go_enter Try.func15, Try.ntmps15
    go_wp2_with fail
    go_ret
    exact ⟨rfl, (Below.refl _ _).alloc (Nat.le_refl _) _⟩
  by_cases k5 : s < (n : Int)
  · have hr : jobOk s c n = false := decide_eq_false (by omega)
    rw [hr]
    have e6 : ((n : Int) == s) = false := eq_no5 (by omega)
    go_enter Try.func15, Try.ntmps15
    go_wp2_with fail
    go_ret
    exact ⟨rfl, (Below.refl _ _).alloc (Nat.le_refl _) _⟩
  by_cases k6 : (n : Int) = s
  · have hr : jobOk s c n = true := decide_eq_true (by omega)
    rw [hr]
    subst k6
    go_enter Try.func15, Try.ntmps15
    go_wp2_with fail
    go_ret
    exact ⟨rfl, (Below.refl _ _).alloc (Nat.le_refl _) _⟩
  have hb := tmod_bounds (n := n) (c := c) (by omega)
  have e6 : ((n : Int) == s) = false := by simp [k6]
  obtain ⟨q, hq⟩ : ∃ q, Int.tmod n c = q := ⟨_, rfl⟩
  rw [hq] at hb
  obtain ⟨q0, q1⟩ := hb
  by_cases k7 : q = 0
  · have hr : jobOk s c n = true := decide_eq_true (by omega)
    rw [hr]
    subst k7
    go_enter Try.func15, Try.ntmps15
    go_wp2_with fail
    go_ret
    exact ⟨rfl, (Below.refl _ _).alloc (Nat.le_refl _) _⟩
  · have hr : jobOk s c n = false := decide_eq_false (by omega)
    rw [hr]
    have e7 : (q == 0) = false := by simp [k7]
    go_enter Try.func15, Try.ntmps15
    go_wp2_with fail
    go_ret
    exact ⟨rfl, (Below.refl _ _).alloc (Nat.le_refl _) _⟩

set_option maxRecDepth 100000 in
set_option maxHeartbeats 1000000 in
theorem refRight_any (w : World) (s c : Int) (a : Option Addr) (n cap : Nat) (hs : IntR s) (hc : IntR c) (hn : n ≤ maxLen) :
    Calls Try.prog 16 #[jobV s c a n cap] w fun e w' => e = .returned (.bool (jobOk s c n)) ∧ Below w.heap.size w w' := by
  obtain ⟨s0, s1⟩ := hs
  obtain ⟨c0, c1⟩ := hc
  unfold maxLen at hn
  by_cases k1 : s < 1
  · have hr : jobOk s c n = false := decide_eq_false (by omega)
    rw [hr]
    go_enter Try.func16, Try.ntmps16
    go_wp2_with fail
    go_ret
    exact ⟨rfl, (Below.refl _ _).alloc (Nat.le_refl _) _⟩
  by_cases k2 : 65536 < s
  · have hr : jobOk s c n = false := decide_eq_false (by omega)
    rw [hr]
    go_enter Try.func16, Try.ntmps16
    go_wp2_with fail
    go_ret
    exact ⟨rfl, (Below.refl _ _).alloc (Nat.le_refl _) _⟩
  by_cases k3 : c < 1
  · have hr : jobOk s c n = false := decide_eq_false (by omega)
    rw [hr]
    go_enter Try.func16, Try.ntmps16
    go_wp2_with fail
    go_ret
    exact ⟨rfl, (Below.refl _ _).alloc (Nat.le_refl _) _⟩
  by_cases k4 : 1024 < c
  · have hr : jobOk s c n = false := decide_eq_false (by omega)
    rw [hr]
    go_enter Try.func16, Try.ntmps16
    go_wp2_with fail
    go_ret
    exact ⟨rfl, (Below.refl _ _).alloc (Nat.le_refl _) _⟩
  by_cases k5 : s < (n : Int)
  · have hr : jobOk s c n = false := decide_eq_false (by omega)
    rw [hr]
    have e6 : ((n : Int) == s) = false := eq_no5 (by omega)
    go_enter Try.func16, Try.ntmps16
    go_wp2_with fail
    go_ret
    exact ⟨rfl, (Below.refl _ _).alloc (Nat.le_refl _) _⟩
  by_cases k6 : (n : Int) = s
  · have hr : jobOk s c n = true := decide_eq_true (by omega)
    rw [hr]
    subst k6
    go_enter Try.func16, Try.ntmps16
    go_wp2_with fail
    go_ret
    exact ⟨rfl, (Below.refl _ _).alloc (Nat.le_refl _) _⟩
  have hb := tmod_bounds (n := n) (c := c) (by omega)
  have e6 : ((n : Int) == s) = false := by simp [k6]
  obtain ⟨q, hq⟩ : ∃ q, Int.tmod n c = q := ⟨_, rfl⟩
  rw [hq] at hb
  obtain ⟨q0, q1⟩ := hb
  by_cases k7 : q = 0
  · have hr : jobOk s c n = true := decide_eq_true (by omega)
    rw [hr]
    subst k7
    go_enter Try.func16, Try.ntmps16
    go_wp2_with fail
    go_ret
    exact ⟨rfl, (Below.refl _ _).alloc (Nat.le_refl _) _⟩
  · have hr : jobOk s c n = false := decide_eq_false (by omega)
    rw [hr]
    have e7 : (q == 0) = false := by simp [k7]
    go_enter Try.func16, Try.ntmps16
    go_wp2_with fail
    go_ret
    exact ⟨rfl, (Below.refl _ _).alloc (Nat.le_refl _) _⟩

end Go.Proofs.Ytikkkmfddhijeaa
