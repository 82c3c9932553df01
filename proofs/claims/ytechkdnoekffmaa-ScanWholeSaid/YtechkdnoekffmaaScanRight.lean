/- scan: the reference's Right, of any record. No condition. (recOk_nums is XRecLaw2's, refRight5_all XRecLaw3's.) -/
import Derived.Test.YtechkdnoekffmaaScanOpen
namespace Go.Proofs.Ytechkdnoekffmaa
open Go.ChangeShapes Go.WideShapes Go.ChangeAt Go.RowKit
theorem recOk_nums {k t : Int} {key blob : Nat} {c : Int} (h : recOk k t key blob c = true) (ht : t < 4294967296) : ∃ (u : UInt8) (t' c' : Nat), k = u.toNat ∧ t = t' ∧ c = c' ∧ t' < 4294967296 ∧ key ≤ 64 ∧ blob ≤ 4096 := by
  have hd := of_decide_eq_true h
  have hk : 0 ≤ k ∧ k < 256 := by omega
  refine ⟨UInt8.ofNat k.toNat, t.toNat, c.toNat, ?_, by omega, by omega, by omega, by omega, by omega⟩
  rw [UInt8.toNat_ofNat_of_lt' (by show _ < 256; omega)]; omega
set_option maxRecDepth 100000 in
set_option maxHeartbeats 4000000 in
theorem refRight5_all (w : World) (k t : Int) (kb : List UInt8) (a : Option Addr) (n cap : Nat) (c : Int) (hk : IntR k) (ht : 0 ≤ t) (hc : IntR c) :
    Calls Try.prog 6 #[recL k t kb a n cap c] w fun e w' => e = .returned (.bool (recOk k t kb.length n c)) ∧ Below w.heap.size w w' := by
  obtain ⟨k1, k2⟩ := hk
  obtain ⟨c1, c2⟩ := hc
  by_cases k0 : t < 1
  · rw [show recOk k t kb.length n c = false from decide_eq_false (by omega)]
    go_enter Try.func6, Try.ntmps6
    go_wp2_with fail
    all_goals (go_ret; first | exact ⟨rfl, (Below.refl _ _).alloc (Nat.le_refl _) _⟩ | exact ⟨ret_no (by omega), (Below.refl _ _).alloc (Nat.le_refl _) _⟩ | exact ⟨ret_yes (by omega), (Below.refl _ _).alloc (Nat.le_refl _) _⟩)
  by_cases d1 : k = 1
  · subst d1
    by_cases q1 : kb.length < 1
    · rw [show recOk 1 t kb.length n c = false from decide_eq_false (by omega)]
      go_enter Try.func6, Try.ntmps6
      go_wp2_with fail
      all_goals (go_ret; first | exact ⟨rfl, (Below.refl _ _).alloc (Nat.le_refl _) _⟩ | exact ⟨ret_no (by omega), (Below.refl _ _).alloc (Nat.le_refl _) _⟩ | exact ⟨ret_yes (by omega), (Below.refl _ _).alloc (Nat.le_refl _) _⟩)
    by_cases q2 : 64 < kb.length
    · rw [show recOk 1 t kb.length n c = false from decide_eq_false (by omega)]
      go_enter Try.func6, Try.ntmps6
      go_wp2_with fail
      all_goals (go_ret; first | exact ⟨rfl, (Below.refl _ _).alloc (Nat.le_refl _) _⟩ | exact ⟨ret_no (by omega), (Below.refl _ _).alloc (Nat.le_refl _) _⟩ | exact ⟨ret_yes (by omega), (Below.refl _ _).alloc (Nat.le_refl _) _⟩)
    by_cases q3 : 4096 < n
    · rw [show recOk 1 t kb.length n c = false from decide_eq_false (by omega)]
      go_enter Try.func6, Try.ntmps6
      go_wp2_with fail
      all_goals (go_ret; first | exact ⟨rfl, (Below.refl _ _).alloc (Nat.le_refl _) _⟩ | exact ⟨ret_no (by omega), (Below.refl _ _).alloc (Nat.le_refl _) _⟩ | exact ⟨ret_yes (by omega), (Below.refl _ _).alloc (Nat.le_refl _) _⟩)
    by_cases q4 : ¬ c = 0
    · rw [show recOk 1 t kb.length n c = false from decide_eq_false (by omega)]
      have e4 : (c == 0) = false := eqi_no q4
      go_enter Try.func6, Try.ntmps6
      go_wp2_with fail
      all_goals (go_ret; first | exact ⟨rfl, (Below.refl _ _).alloc (Nat.le_refl _) _⟩ | exact ⟨ret_no (by omega), (Below.refl _ _).alloc (Nat.le_refl _) _⟩ | exact ⟨ret_yes (by omega), (Below.refl _ _).alloc (Nat.le_refl _) _⟩)
    obtain rfl : c = 0 := by omega
    rw [show recOk 1 t kb.length n 0 = true from decide_eq_true (by omega)]
    go_enter Try.func6, Try.ntmps6
    go_wp2_with fail
    all_goals (go_ret; first | exact ⟨rfl, (Below.refl _ _).alloc (Nat.le_refl _) _⟩ | exact ⟨ret_no (by omega), (Below.refl _ _).alloc (Nat.le_refl _) _⟩ | exact ⟨ret_yes (by omega), (Below.refl _ _).alloc (Nat.le_refl _) _⟩)
  by_cases d2 : k = 2
  · subst d2
    by_cases q1 : kb.length < 1
    · rw [show recOk 2 t kb.length n c = false from decide_eq_false (by omega)]
      go_enter Try.func6, Try.ntmps6
      go_wp2_with fail
      all_goals (go_ret; first | exact ⟨rfl, (Below.refl _ _).alloc (Nat.le_refl _) _⟩ | exact ⟨ret_no (by omega), (Below.refl _ _).alloc (Nat.le_refl _) _⟩ | exact ⟨ret_yes (by omega), (Below.refl _ _).alloc (Nat.le_refl _) _⟩)
    by_cases q2 : 64 < kb.length
    · rw [show recOk 2 t kb.length n c = false from decide_eq_false (by omega)]
      go_enter Try.func6, Try.ntmps6
      go_wp2_with fail
      all_goals (go_ret; first | exact ⟨rfl, (Below.refl _ _).alloc (Nat.le_refl _) _⟩ | exact ⟨ret_no (by omega), (Below.refl _ _).alloc (Nat.le_refl _) _⟩ | exact ⟨ret_yes (by omega), (Below.refl _ _).alloc (Nat.le_refl _) _⟩)
    by_cases q3 : ¬ n = 0
    · rw [show recOk 2 t kb.length n c = false from decide_eq_false (by omega)]
      have e3 : ((n : Int) == 0) = false := eqi_no (by omega)
      go_enter Try.func6, Try.ntmps6
      go_wp2_with fail
      all_goals (go_ret; first | exact ⟨rfl, (Below.refl _ _).alloc (Nat.le_refl _) _⟩ | exact ⟨ret_no (by omega), (Below.refl _ _).alloc (Nat.le_refl _) _⟩ | exact ⟨ret_yes (by omega), (Below.refl _ _).alloc (Nat.le_refl _) _⟩)
    by_cases q4 : ¬ c = 0
    · rw [show recOk 2 t kb.length n c = false from decide_eq_false (by omega)]
      have e4 : (c == 0) = false := eqi_no q4
      go_enter Try.func6, Try.ntmps6
      go_wp2_with fail
      all_goals (go_ret; first | exact ⟨rfl, (Below.refl _ _).alloc (Nat.le_refl _) _⟩ | exact ⟨ret_no (by omega), (Below.refl _ _).alloc (Nat.le_refl _) _⟩ | exact ⟨ret_yes (by omega), (Below.refl _ _).alloc (Nat.le_refl _) _⟩)
    obtain rfl : c = 0 := by omega
    obtain rfl : n = 0 := by omega
    rw [show recOk 2 t kb.length 0 0 = true from decide_eq_true (by omega)]
    go_enter Try.func6, Try.ntmps6
    go_wp2_with fail
    all_goals (go_ret; first | exact ⟨rfl, (Below.refl _ _).alloc (Nat.le_refl _) _⟩ | exact ⟨ret_no (by omega), (Below.refl _ _).alloc (Nat.le_refl _) _⟩ | exact ⟨ret_yes (by omega), (Below.refl _ _).alloc (Nat.le_refl _) _⟩)
  by_cases d3 : k = 3
  · subst d3
    by_cases q1 : ¬ kb = []
    · have hl : kb.length ≠ 0 := fun h => q1 (List.eq_nil_of_length_eq_zero h)
      have e1 : (kb == []) = false := by simpa using q1
      rw [show recOk 3 t kb.length n c = false from decide_eq_false (by omega)]
      go_enter Try.func6, Try.ntmps6
      go_wp2_with fail
      all_goals (go_ret; first | exact ⟨rfl, (Below.refl _ _).alloc (Nat.le_refl _) _⟩ | exact ⟨ret_no (by omega), (Below.refl _ _).alloc (Nat.le_refl _) _⟩ | exact ⟨ret_yes (by omega), (Below.refl _ _).alloc (Nat.le_refl _) _⟩)
    obtain rfl : kb = [] := Classical.not_not.1 q1
    by_cases q2 : ¬ n = 0
    · rw [show recOk 3 t ([] : List UInt8).length n c = false from decide_eq_false (by have hz : ([] : List UInt8).length = 0 := rfl; omega)]
      have e2 : ((n : Int) == 0) = false := eqi_no (by omega)
      go_enter Try.func6, Try.ntmps6
      go_wp2_with fail
      all_goals (go_ret; first | exact ⟨rfl, (Below.refl _ _).alloc (Nat.le_refl _) _⟩ | exact ⟨ret_no (by omega), (Below.refl _ _).alloc (Nat.le_refl _) _⟩ | exact ⟨ret_yes (by omega), (Below.refl _ _).alloc (Nat.le_refl _) _⟩)
    by_cases q3 : c < 0
    · rw [show recOk 3 t ([] : List UInt8).length n c = false from decide_eq_false (by have hz : ([] : List UInt8).length = 0 := rfl; omega)]
      go_enter Try.func6, Try.ntmps6
      go_wp2_with fail
      all_goals (go_ret; first | exact ⟨rfl, (Below.refl _ _).alloc (Nat.le_refl _) _⟩ | exact ⟨ret_no (by omega), (Below.refl _ _).alloc (Nat.le_refl _) _⟩ | exact ⟨ret_yes (by omega), (Below.refl _ _).alloc (Nat.le_refl _) _⟩)
    by_cases q4 : 16 < c
    · rw [show recOk 3 t ([] : List UInt8).length n c = false from decide_eq_false (by have hz : ([] : List UInt8).length = 0 := rfl; omega)]
      go_enter Try.func6, Try.ntmps6
      go_wp2_with fail
      all_goals (go_ret; first | exact ⟨rfl, (Below.refl _ _).alloc (Nat.le_refl _) _⟩ | exact ⟨ret_no (by omega), (Below.refl _ _).alloc (Nat.le_refl _) _⟩ | exact ⟨ret_yes (by omega), (Below.refl _ _).alloc (Nat.le_refl _) _⟩)
    obtain rfl : n = 0 := by omega
    rw [show recOk 3 t ([] : List UInt8).length 0 c = true from decide_eq_true (by have hz : ([] : List UInt8).length = 0 := rfl; omega)]
    go_enter Try.func6, Try.ntmps6
    go_wp2_with fail
    all_goals (go_ret; first | exact ⟨rfl, (Below.refl _ _).alloc (Nat.le_refl _) _⟩ | exact ⟨ret_no (by omega), (Below.refl _ _).alloc (Nat.le_refl _) _⟩ | exact ⟨ret_yes (by omega), (Below.refl _ _).alloc (Nat.le_refl _) _⟩)
  have e1 : (k == 1) = false := eqi_no d1
  have e2 : (k == 2) = false := eqi_no d2
  have e3 : (k == 3) = false := eqi_no d3
  rw [show recOk k t kb.length n c = false from decide_eq_false (by omega)]
  go_enter Try.func6, Try.ntmps6
  go_wp2_with fail
  all_goals (go_ret; first | exact ⟨rfl, (Below.refl _ _).alloc (Nat.le_refl _) _⟩ | exact ⟨ret_no (by omega), (Below.refl _ _).alloc (Nat.le_refl _) _⟩ | exact ⟨ret_yes (by omega), (Below.refl _ _).alloc (Nat.le_refl _) _⟩)
end Go.Proofs.Ytechkdnoekffmaa
