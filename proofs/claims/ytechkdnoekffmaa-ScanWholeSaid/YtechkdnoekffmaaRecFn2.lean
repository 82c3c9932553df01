/- rec: the reference's Right; sizes; which records are the same. No condition. -/
import Derived.Test.YtechkdnoekffmaaRecFn
namespace Go.Proofs.Ytechkdnoekffmaa
open Go.ChangeShapes Go.WideShapes Go.ChangeAt Go.RowKit
abbrev recL (k t : Int) (kb : List UInt8) (a : Option Addr) (n cap : Nat) (c : Int) : Value := recV k t ⟨kb.toArray⟩ a n cap c
set_option maxRecDepth 100000 in
set_option maxHeartbeats 4000000 in
theorem refRight5_any (w : World) (k t : Int) (kb : List UInt8) (a : Option Addr) (n cap : Nat) (c : Int) (hk : IntR k) (ht : 0 ≤ t) (hc : IntR c) (h1 : kb.length ≤ 1048576) (h2 : n ≤ 1048576) :
    Calls Try.prog 6 #[recL k t kb a n cap c] w fun e w' => e = .returned (.bool (recOk k t kb.length n c)) ∧ Below w.heap.size w w' := by
  obtain ⟨k1, k2⟩ := hk
  obtain ⟨c1, c2⟩ := hc
  by_cases k0 : t < 1
  · rw [show recOk k t kb.length n c = false from decide_eq_false (by omega)]
    go_enter Try.func6, Try.ntmps6
    go_wp2_with fail
    all_goals (go_ret; first | exact ⟨rfl, (Below.refl _ _).alloc (Nat.le_refl _) _⟩ | exact ⟨ret_no (by omega), (Below.refl _ _).alloc (Nat.le_refl _) _⟩ | exact ⟨ret_yes (by omega), (Below.refl _ _).alloc (Nat.le_refl _) _⟩)
  by_cases d1 : k = 1
  · subst d1
    by_cases q1 : kb.length < 1
    · rw [show recOk 1 t kb.length n c = false from decide_eq_false (by omega)]
      go_enter Try.func6, Try.ntmps6
      go_wp2_with fail
      all_goals (go_ret; first | exact ⟨rfl, (Below.refl _ _).alloc (Nat.le_refl _) _⟩ | exact ⟨ret_no (by omega), (Below.refl _ _).alloc (Nat.le_refl _) _⟩ | exact ⟨ret_yes (by omega), (Below.refl _ _).alloc (Nat.le_refl _) _⟩)
    by_cases q2 : 64 < kb.length
    · rw [show recOk 1 t kb.length n c = false from decide_eq_false (by omega)]
      go_enter Try.func6, Try.ntmps6
      go_wp2_with fail
      all_goals (go_ret; first | exact ⟨rfl, (Below.refl _ _).alloc (Nat.le_refl _) _⟩ | exact ⟨ret_no (by omega), (Below.refl _ _).alloc (Nat.le_refl _) _⟩ | exact ⟨ret_yes (by omega), (Below.refl _ _).alloc (Nat.le_refl _) _⟩)
    by_cases q3 : 4096 < n
    · rw [show recOk 1 t kb.length n c = false from decide_eq_false (by omega)]
      go_enter Try.func6, Try.ntmps6
      go_wp2_with fail
      all_goals (go_ret; first | exact ⟨rfl, (Below.refl _ _).alloc (Nat.le_refl _) _⟩ | exact ⟨ret_no (by omega), (Below.refl _ _).alloc (Nat.le_refl _) _⟩ | exact ⟨ret_yes (by omega), (Below.refl _ _).alloc (Nat.le_refl _) _⟩)
    by_cases q4 : ¬ c = 0
    · rw [show recOk 1 t kb.length n c = false from decide_eq_false (by omega)]
      have e4 : (c == 0) = false := eqi_no q4
      go_enter Try.func6, Try.ntmps6
      go_wp2_with fail
      all_goals (go_ret; first | exact ⟨rfl, (Below.refl _ _).alloc (Nat.le_refl _) _⟩ | exact ⟨ret_no (by omega), (Below.refl _ _).alloc (Nat.le_refl _) _⟩ | exact ⟨ret_yes (by omega), (Below.refl _ _).alloc (Nat.le_refl _) _⟩)
    obtain rfl : c = 0 := by omega
    rw [show recOk 1 t kb.length n 0 = true from decide_eq_true (by omega)]
    go_enter Try.func6, Try.ntmps6
    go_wp2_with fail
    all_goals (go_ret; first | exact ⟨rfl, (Below.refl _ _).alloc (Nat.le_refl _) _⟩ | exact ⟨ret_no (by omega), (Below.refl _ _).alloc (Nat.le_refl _) _⟩ | exact ⟨ret_yes (by omega), (Below.refl _ _).alloc (Nat.le_refl _) _⟩)
  by_cases d2 : k = 2
  · subst d2
    by_cases q1 : kb.length < 1
    · rw [show recOk 2 t kb.length n c = false from decide_eq_false (by omega)]
      go_enter Try.func6, Try.ntmps6
      go_wp2_with fail
      all_goals (go_ret; first | exact ⟨rfl, (Below.refl _ _).alloc (Nat.le_refl _) _⟩ | exact ⟨ret_no (by omega), (Below.refl _ _).alloc (Nat.le_refl _) _⟩ | exact ⟨ret_yes (by omega), (Below.refl _ _).alloc (Nat.le_refl _) _⟩)
    by_cases q2 : 64 < kb.length
    · rw [show recOk 2 t kb.length n c = false from decide_eq_false (by omega)]
      go_enter Try.func6, Try.ntmps6
      go_wp2_with fail
      all_goals (go_ret; first | exact ⟨rfl, (Below.refl _ _).alloc (Nat.le_refl _) _⟩ | exact ⟨ret_no (by omega), (Below.refl _ _).alloc (Nat.le_refl _) _⟩ | exact ⟨ret_yes (by omega), (Below.refl _ _).alloc (Nat.le_refl _) _⟩)
    by_cases q3 : ¬ n = 0
    · rw [show recOk 2 t kb.length n c = false from decide_eq_false (by omega)]
      have e3 : ((n : Int) == 0) = false := eqi_no (by omega)
      go_enter Try.func6, Try.ntmps6
      go_wp2_with fail
      all_goals (go_ret; first | exact ⟨rfl, (Below.refl _ _).alloc (Nat.le_refl _) _⟩ | exact ⟨ret_no (by omega), (Below.refl _ _).alloc (Nat.le_refl _) _⟩ | exact ⟨ret_yes (by omega), (Below.refl _ _).alloc (Nat.le_refl _) _⟩)
    by_cases q4 : ¬ c = 0
    · rw [show recOk 2 t kb.length n c = false from decide_eq_false (by omega)]
      have e4 : (c == 0) = false := eqi_no q4
      go_enter Try.func6, Try.ntmps6
      go_wp2_with fail
      all_goals (go_ret; first | exact ⟨rfl, (Below.refl _ _).alloc (Nat.le_refl _) _⟩ | exact ⟨ret_no (by omega), (Below.refl _ _).alloc (Nat.le_refl _) _⟩ | exact ⟨ret_yes (by omega), (Below.refl _ _).alloc (Nat.le_refl _) _⟩)
    obtain rfl : c = 0 := by omega
    obtain rfl : n = 0 := by omega
    rw [show recOk 2 t kb.length 0 0 = true from decide_eq_true (by omega)]
    go_enter Try.func6, Try.ntmps6
    go_wp2_with fail
    all_goals (go_ret; first | exact ⟨rfl, (Below.refl _ _).alloc (Nat.le_refl _) _⟩ | exact ⟨ret_no (by omega), (Below.refl _ _).alloc (Nat.le_refl _) _⟩ | exact ⟨ret_yes (by omega), (Below.refl _ _).alloc (Nat.le_refl _) _⟩)
  by_cases d3 : k = 3
  · subst d3
    by_cases q1 : ¬ kb = []
    · have hl : kb.length ≠ 0 := fun h => q1 (List.eq_nil_of_length_eq_zero h)
      have e1 : (kb == []) = false := by simpa using q1
      rw [show recOk 3 t kb.length n c = false from decide_eq_false (by omega)]
      go_enter Try.func6, Try.ntmps6
      go_wp2_with fail
      all_goals (go_ret; first | exact ⟨rfl, (Below.refl _ _).alloc (Nat.le_refl _) _⟩ | exact ⟨ret_no (by omega), (Below.refl _ _).alloc (Nat.le_refl _) _⟩ | exact ⟨ret_yes (by omega), (Below.refl _ _).alloc (Nat.le_refl _) _⟩)
    obtain rfl : kb = [] := Classical.not_not.1 q1
    by_cases q2 : ¬ n = 0
    · rw [show recOk 3 t ([] : List UInt8).length n c = false from decide_eq_false (by have hz : ([] : List UInt8).length = 0 := rfl; omega)]
      have e2 : ((n : Int) == 0) = false := eqi_no (by omega)
      go_enter Try.func6, Try.ntmps6
      go_wp2_with fail
      all_goals (go_ret; first | exact ⟨rfl, (Below.refl _ _).alloc (Nat.le_refl _) _⟩ | exact ⟨ret_no (by omega), (Below.refl _ _).alloc (Nat.le_refl _) _⟩ | exact ⟨ret_yes (by omega), (Below.refl _ _).alloc (Nat.le_refl _) _⟩)
    by_cases q3 : c < 0
    · rw [show recOk 3 t ([] : List UInt8).length n c = false from decide_eq_false (by have hz : ([] : List UInt8).length = 0 := rfl; omega)]
      go_enter Try.func6, Try.ntmps6
      go_wp2_with fail
      all_goals (go_ret; first | exact ⟨rfl, (Below.refl _ _).alloc (Nat.le_refl _) _⟩ | exact ⟨ret_no (by omega), (Below.refl _ _).alloc (Nat.le_refl _) _⟩ | exact ⟨ret_yes (by omega), (Below.refl _ _).alloc (Nat.le_refl _) _⟩)
    by_cases q4 : 16 < c
    · rw [show recOk 3 t ([] : List UInt8).length n c = false from decide_eq_false (by have hz : ([] : List UInt8).length = 0 := rfl; omega)]
      go_enter Try.func6, Try.ntmps6
      go_wp2_with fail
      all_goals (go_ret; first | exact ⟨rfl, (Below.refl _ _).alloc (Nat.le_refl _) _⟩ | exact ⟨ret_no (by omega), (Below.refl _ _).alloc (Nat.le_refl _) _⟩ | exact ⟨ret_yes (by omega), (Below.refl _ _).alloc (Nat.le_refl _) _⟩)
    obtain rfl : n = 0 := by omega
    rw [show recOk 3 t ([] : List UInt8).length 0 c = true from decide_eq_true (by have hz : ([] : List UInt8).length = 0 := rfl; omega)]
    go_enter Try.func6, Try.ntmps6
    go_wp2_with fail
    all_goals (go_ret; first | exact ⟨rfl, (Below.refl _ _).alloc (Nat.le_refl _) _⟩ | exact ⟨ret_no (by omega), (Below.refl _ _).alloc (Nat.le_refl _) _⟩ | exact ⟨ret_yes (by omega), (Below.refl _ _).alloc (Nat.le_refl _) _⟩)
  have e1 : (k == 1) = false := eqi_no d1
  have e2 : (k == 2) = false := eqi_no d2
  have e3 : (k == 3) = false := eqi_no d3
  rw [show recOk k t kb.length n c = false from decide_eq_false (by omega)]
  go_enter Try.func6, Try.ntmps6
  go_wp2_with fail
  all_goals (go_ret; first | exact ⟨rfl, (Below.refl _ _).alloc (Nat.le_refl _) _⟩ | exact ⟨ret_no (by omega), (Below.refl _ _).alloc (Nat.le_refl _) _⟩ | exact ⟨ret_yes (by omega), (Below.refl _ _).alloc (Nat.le_refl _) _⟩)
set_option maxRecDepth 100000 in
set_option maxHeartbeats 1000000 in
theorem Same5_yes (w : World) (k t : Int) (kb : List UInt8) (a : Option Addr) (n cap : Nat) (c : Int) (bs : List UInt8) (a2 : Option Addr) (n2 cap2 : Nat) (h1 : Sl encB w a n bs) (h2 : Sl encB w a2 n2 bs) :
    Calls Try.prog 17 #[recL k t kb a n cap c, recL k t kb a2 n2 cap2 c] w fun e w' => e = .returned (.bool true) ∧ Below w.heap.size w w' := by
  have hb := ((Below.refl w.heap.size w).alloc (Nat.le_refl _) (.cells #[.int .i64 k, .int .u32 t, .string ⟨kb.toArray⟩, .slice a n cap, .int .i64 c] 28)).alloc (by simp) (.cells #[.int .i64 k, .int .u32 t, .string ⟨kb.toArray⟩, .slice a2 n2 cap2, .int .i64 c] 28)
  have q1 := run_conv (h1.below hb) cap
  have q2 := run_conv (h2.below hb) cap2
  have HB := Lib.hid hb
  clear hb h1 h2
  go_enter Try.func17, Try.ntmps17
  go_wp2_with fail
  go_ret
  exact ⟨rfl, HB.out⟩
end Go.Proofs.Ytechkdnoekffmaa
