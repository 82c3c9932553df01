/- rec: which records may be; their sizes; which are the same. No condition. -/
import Derived.Test.YtechkdnoekffmaaCrcPlain
import Derived.Test.YtechkdnoekffmaaNumFn
import Derived.Test.YtechkdnoekffmaaRegion2
import Derived.Test.YtechkdnoekffmaaClone
import Derived.Test.YtechkdnoekffmaaFlip
namespace Go.Proofs.Ytechkdnoekffmaa
open Go.ChangeShapes Go.WideShapes Go.ChangeAt Go.RowKit
abbrev recV (k t : Int) (key : ByteArray) (a : Option Addr) (n cap : Nat) (c : Int) : Value := .agg #[.int .i64 k, .int .u32 t, .string key, .slice a n cap, .int .i64 c]
/-- May a record be? -/
def recOk (k t : Int) (key blob : Nat) (c : Int) : Bool :=
  decide (1 ≤ t ∧ (k = 1 ∧ 1 ≤ key ∧ key ≤ 64 ∧ blob ≤ 4096 ∧ c = 0 ∨ k = 2 ∧ 1 ≤ key ∧ key ≤ 64 ∧ blob = 0 ∧ c = 0 ∨ k = 3 ∧ key = 0 ∧ blob = 0 ∧ 0 ≤ c ∧ c ≤ 16))
theorem ret_no {p : Prop} [Decidable p] (h : ¬ p) : Ending.returned (.bool (decide p)) = .returned (.bool false) := by rw [decide_eq_false h]
theorem ret_yes {p : Prop} [Decidable p] (h : p) : Ending.returned (.bool (decide p)) = .returned (.bool true) := by rw [decide_eq_true h]
theorem eqi_no {a b : Int} (h : ¬ a = b) : (a == b) = false := by simp [h]
theorem eqi_yes {a b : Int} (h : a = b) : (a == b) = true := by simp [h]
set_option maxRecDepth 100000 in
set_option maxHeartbeats 4000000 in
theorem right5_any (w : World) (k t : Int) (ks : ByteArray) (a : Option Addr) (n cap : Nat) (c : Int) (key blob : Nat) (hk : IntR k) (ht : 0 ≤ t) (hc : IntR c) (h1 : key ≤ 1048576) (h2 : blob ≤ 1048576) :
    Calls Try.prog 26 #[recV k t ks a n cap c, .int .i64 key, .int .i64 blob] w fun e w' => e = .returned (.bool (recOk k t key blob c)) ∧ Below w.heap.size w w' := by
  obtain ⟨k1, k2⟩ := hk
  obtain ⟨c1, c2⟩ := hc
  by_cases k0 : t < 1
  · obtain rfl : t = 0 := by omega
    rw [show recOk k 0 key blob c = false from decide_eq_false (by omega)]
    go_enter Try.func26, Try.ntmps26
    go_wp2_with fail
    all_goals (go_ret; first | exact ⟨rfl, (Below.refl _ _).alloc (Nat.le_refl _) _⟩ | exact ⟨ret_no (by omega), (Below.refl _ _).alloc (Nat.le_refl _) _⟩ | exact ⟨ret_yes (by omega), (Below.refl _ _).alloc (Nat.le_refl _) _⟩)
  have e0 : (t == 0) = false := eqi_no (by omega)
  by_cases d1 : k = 1
  · subst d1
    by_cases q1 : key < 1
    · rw [show recOk 1 t key blob c = false from decide_eq_false (by omega)]
      go_enter Try.func26, Try.ntmps26
      go_wp2_with fail
      all_goals (go_ret; first | exact ⟨rfl, (Below.refl _ _).alloc (Nat.le_refl _) _⟩ | exact ⟨ret_no (by omega), (Below.refl _ _).alloc (Nat.le_refl _) _⟩ | exact ⟨ret_yes (by omega), (Below.refl _ _).alloc (Nat.le_refl _) _⟩)
    by_cases q2 : 64 < key
    · rw [show recOk 1 t key blob c = false from decide_eq_false (by omega)]
      go_enter Try.func26, Try.ntmps26
      go_wp2_with fail
      all_goals (go_ret; first | exact ⟨rfl, (Below.refl _ _).alloc (Nat.le_refl _) _⟩ | exact ⟨ret_no (by omega), (Below.refl _ _).alloc (Nat.le_refl _) _⟩ | exact ⟨ret_yes (by omega), (Below.refl _ _).alloc (Nat.le_refl _) _⟩)
    by_cases q3 : 4096 < blob
    · rw [show recOk 1 t key blob c = false from decide_eq_false (by omega)]
      go_enter Try.func26, Try.ntmps26
      go_wp2_with fail
      all_goals (go_ret; first | exact ⟨rfl, (Below.refl _ _).alloc (Nat.le_refl _) _⟩ | exact ⟨ret_no (by omega), (Below.refl _ _).alloc (Nat.le_refl _) _⟩ | exact ⟨ret_yes (by omega), (Below.refl _ _).alloc (Nat.le_refl _) _⟩)
    by_cases q4 : ¬ c = 0
    · rw [show recOk 1 t key blob c = false from decide_eq_false (by omega)]
      have e4 : (c == 0) = false := eqi_no q4
      go_enter Try.func26, Try.ntmps26
      go_wp2_with fail
      all_goals (go_ret; first | exact ⟨rfl, (Below.refl _ _).alloc (Nat.le_refl _) _⟩ | exact ⟨ret_no (by omega), (Below.refl _ _).alloc (Nat.le_refl _) _⟩ | exact ⟨ret_yes (by omega), (Below.refl _ _).alloc (Nat.le_refl _) _⟩)
    obtain rfl : c = 0 := by omega
    rw [show recOk 1 t key blob 0 = true from decide_eq_true (by omega)]
    go_enter Try.func26, Try.ntmps26
    go_wp2_with fail
    all_goals (go_ret; first | exact ⟨rfl, (Below.refl _ _).alloc (Nat.le_refl _) _⟩ | exact ⟨ret_no (by omega), (Below.refl _ _).alloc (Nat.le_refl _) _⟩ | exact ⟨ret_yes (by omega), (Below.refl _ _).alloc (Nat.le_refl _) _⟩)
  by_cases d2 : k = 2
  · subst d2
    by_cases q1 : key < 1
    · rw [show recOk 2 t key blob c = false from decide_eq_false (by omega)]
      go_enter Try.func26, Try.ntmps26
      go_wp2_with fail
      all_goals (go_ret; first | exact ⟨rfl, (Below.refl _ _).alloc (Nat.le_refl _) _⟩ | exact ⟨ret_no (by omega), (Below.refl _ _).alloc (Nat.le_refl _) _⟩ | exact ⟨ret_yes (by omega), (Below.refl _ _).alloc (Nat.le_refl _) _⟩)
    by_cases q2 : 64 < key
    · rw [show recOk 2 t key blob c = false from decide_eq_false (by omega)]
      go_enter Try.func26, Try.ntmps26
      go_wp2_with fail
      all_goals (go_ret; first | exact ⟨rfl, (Below.refl _ _).alloc (Nat.le_refl _) _⟩ | exact ⟨ret_no (by omega), (Below.refl _ _).alloc (Nat.le_refl _) _⟩ | exact ⟨ret_yes (by omega), (Below.refl _ _).alloc (Nat.le_refl _) _⟩)
    by_cases q3 : ¬ blob = 0
    · rw [show recOk 2 t key blob c = false from decide_eq_false (by omega)]
      have e3 : ((blob : Int) == 0) = false := eqi_no (by omega)
      go_enter Try.func26, Try.ntmps26
      go_wp2_with fail
      all_goals (go_ret; first | exact ⟨rfl, (Below.refl _ _).alloc (Nat.le_refl _) _⟩ | exact ⟨ret_no (by omega), (Below.refl _ _).alloc (Nat.le_refl _) _⟩ | exact ⟨ret_yes (by omega), (Below.refl _ _).alloc (Nat.le_refl _) _⟩)
    by_cases q4 : ¬ c = 0
    · rw [show recOk 2 t key blob c = false from decide_eq_false (by omega)]
      have e4 : (c == 0) = false := eqi_no q4
      go_enter Try.func26, Try.ntmps26
      go_wp2_with fail
      all_goals (go_ret; first | exact ⟨rfl, (Below.refl _ _).alloc (Nat.le_refl _) _⟩ | exact ⟨ret_no (by omega), (Below.refl _ _).alloc (Nat.le_refl _) _⟩ | exact ⟨ret_yes (by omega), (Below.refl _ _).alloc (Nat.le_refl _) _⟩)
    obtain rfl : c = 0 := by omega
    obtain rfl : blob = 0 := by omega
    rw [show recOk 2 t key 0 0 = true from decide_eq_true (by omega)]
    go_enter Try.func26, Try.ntmps26
    go_wp2_with fail
    all_goals (go_ret; first | exact ⟨rfl, (Below.refl _ _).alloc (Nat.le_refl _) _⟩ | exact ⟨ret_no (by omega), (Below.refl _ _).alloc (Nat.le_refl _) _⟩ | exact ⟨ret_yes (by omega), (Below.refl _ _).alloc (Nat.le_refl _) _⟩)
  by_cases d3 : k = 3
  · subst d3
    by_cases q1 : ¬ key = 0
    · rw [show recOk 3 t key blob c = false from decide_eq_false (by omega)]
      have e1 : ((key : Int) == 0) = false := eqi_no (by omega)
      go_enter Try.func26, Try.ntmps26
      go_wp2_with fail
      all_goals (go_ret; first | exact ⟨rfl, (Below.refl _ _).alloc (Nat.le_refl _) _⟩ | exact ⟨ret_no (by omega), (Below.refl _ _).alloc (Nat.le_refl _) _⟩ | exact ⟨ret_yes (by omega), (Below.refl _ _).alloc (Nat.le_refl _) _⟩)
    by_cases q2 : ¬ blob = 0
    · rw [show recOk 3 t key blob c = false from decide_eq_false (by omega)]
      have e2 : ((blob : Int) == 0) = false := eqi_no (by omega)
      go_enter Try.func26, Try.ntmps26
      go_wp2_with fail
      all_goals (go_ret; first | exact ⟨rfl, (Below.refl _ _).alloc (Nat.le_refl _) _⟩ | exact ⟨ret_no (by omega), (Below.refl _ _).alloc (Nat.le_refl _) _⟩ | exact ⟨ret_yes (by omega), (Below.refl _ _).alloc (Nat.le_refl _) _⟩)
    by_cases q3 : c < 0
    · rw [show recOk 3 t key blob c = false from decide_eq_false (by omega)]
      go_enter Try.func26, Try.ntmps26
      go_wp2_with fail
      all_goals (go_ret; first | exact ⟨rfl, (Below.refl _ _).alloc (Nat.le_refl _) _⟩ | exact ⟨ret_no (by omega), (Below.refl _ _).alloc (Nat.le_refl _) _⟩ | exact ⟨ret_yes (by omega), (Below.refl _ _).alloc (Nat.le_refl _) _⟩)
    by_cases q4 : 16 < c
    · rw [show recOk 3 t key blob c = false from decide_eq_false (by omega)]
      go_enter Try.func26, Try.ntmps26
      go_wp2_with fail
      all_goals (go_ret; first | exact ⟨rfl, (Below.refl _ _).alloc (Nat.le_refl _) _⟩ | exact ⟨ret_no (by omega), (Below.refl _ _).alloc (Nat.le_refl _) _⟩ | exact ⟨ret_yes (by omega), (Below.refl _ _).alloc (Nat.le_refl _) _⟩)
    obtain rfl : key = 0 := by omega
    obtain rfl : blob = 0 := by omega
    rw [show recOk 3 t 0 0 c = true from decide_eq_true (by omega)]
    go_enter Try.func26, Try.ntmps26
    go_wp2_with fail
    all_goals (go_ret; first | exact ⟨rfl, (Below.refl _ _).alloc (Nat.le_refl _) _⟩ | exact ⟨ret_no (by omega), (Below.refl _ _).alloc (Nat.le_refl _) _⟩ | exact ⟨ret_yes (by omega), (Below.refl _ _).alloc (Nat.le_refl _) _⟩)
  have e1 : (k == 1) = false := eqi_no d1
  have e2 : (k == 2) = false := eqi_no d2
  have e3 : (k == 3) = false := eqi_no d3
  rw [show recOk k t key blob c = false from decide_eq_false (by omega)]
  go_enter Try.func26, Try.ntmps26
  go_wp2_with fail
  all_goals (go_ret; first | exact ⟨rfl, (Below.refl _ _).alloc (Nat.le_refl _) _⟩ | exact ⟨ret_no (by omega), (Below.refl _ _).alloc (Nat.le_refl _) _⟩ | exact ⟨ret_yes (by omega), (Below.refl _ _).alloc (Nat.le_refl _) _⟩)
end Go.Proofs.Ytechkdnoekffmaa
