/- image: whether numbers have room. No condition. -/
import Derived.Test.YtbcldlbmbdfejaaImgNext2
import Derived.Test.YtbcldlbmbdfejaaOwnOr
namespace Go.Proofs.Ytbcldlbmbdfejaa
open Go.ChangeShapes Go.WideShapes Go.ChangeAt Go.RowKit
/-- Has a number room in n bytes? -/
def roomB (v : Int) (n : Nat) : Bool := decide (0 ≤ v ∧ v < 2 ^ (8 * n))
def u64V (n : Int) : Nat := (n % 18446744073709551616).toNat
theorem u64V_lt (n : Int) : u64V n < 18446744073709551616 := by unfold u64V; omega
theorem u64V_wrap (n : Int) : IntKind.u64.wrap n = (u64V n : Int) := by rw [IntKind.wrap_u64]; unfold u64V; omega
theorem u64V_nat {n : Nat} (h : n < 18446744073709551616) : u64V n = n := by unfold u64V; omega
/-- Has a number with its sign room? -/
def sgnB (v : Int) (n : Nat) : Bool := if n = 0 then decide (v = 0) else decide (signB (u64V v) n = v)
theorem ret_boolI {a b : Bool} (h : a = b) : Ending.returned (.bool a) = .returned (.bool b) := by rw [h]
set_option maxRecDepth 100000 in
set_option maxHeartbeats 4000000 in
theorem fits_any (w : World) (v : Int) (n : Nat) (hv : IntR v) (hn : n = 0 ∨ n = 1 ∨ n = 2 ∨ n = 4) : Calls Try.prog 43 #[.int .i64 v, .int .i64 n] w fun e w' => e = .returned (.bool (roomB v n)) ∧ w = w' := by
  obtain ⟨h1, h2⟩ := hv
  by_cases h0 : 0 ≤ v
  · have e0 := decide_eq_true h0
    rcases hn with rfl | rfl | rfl | rfl
    all_goals
      go_enter Try.func43, Try.ntmps43
      go_wp2_with fail
      go_ret
      refine ⟨ret_boolI ?_, rfl⟩
      unfold roomB
      rw [Bool.eq_iff_iff]
      simp
      omega
  · have e0 := decide_eq_false h0
    have hr : roomB v n = false := decide_eq_false (fun h => h0 h.1)
    rw [hr]
    clear hr
    go_enter Try.func43, Try.ntmps43
    go_wp2_with fail
    go_ret
    exact ⟨rfl, rfl⟩
set_option maxRecDepth 100000 in
set_option maxHeartbeats 4000000 in
theorem refFits_any (w : World) (v : Int) (n : Nat) (hv : IntR v) (hn : n = 0 ∨ n = 1 ∨ n = 2 ∨ n = 4) : Calls Try.prog 74 #[.int .i64 v, .int .i64 n] w fun e w' => e = .returned (.bool (roomB v n)) ∧ w = w' := by
  obtain ⟨h1, h2⟩ := hv
  by_cases h0 : 0 ≤ v
  · have e0 := decide_eq_true h0
    rcases hn with rfl | rfl | rfl | rfl
    all_goals
      go_enter Try.func74, Try.ntmps74
      go_wp2_with fail
      go_ret
      refine ⟨ret_boolI ?_, rfl⟩
      unfold roomB
      rw [Bool.eq_iff_iff]
      simp
      omega
  · have e0 := decide_eq_false h0
    have hr : roomB v n = false := decide_eq_false (fun h => h0 h.1)
    rw [hr]
    clear hr
    go_enter Try.func74, Try.ntmps74
    go_wp2_with fail
    go_ret
    exact ⟨rfl, rfl⟩
theorem sgnB_8 {v : Int} (hv : IntR v) : sgnB v 8 = true := by
  unfold sgnB
  rw [if_neg (by omega)]
  refine decide_eq_true ?_
  obtain ⟨h1, h2⟩ := hv
  rw [show ((8 : Nat) : Int) = 8 from rfl, signB_8]
  unfold u64V wrap64
  omega
set_option maxRecDepth 100000 in
set_option maxHeartbeats 4000000 in
theorem signed_any (w : World) (v : Int) (n : Nat) (hv : IntR v) (hn : n ≤ 8) : Calls Try.prog 44 #[.int .i64 v, .int .i64 n] w fun e w' => e = .returned (.bool (sgnB v n)) ∧ w = w' := by
  by_cases h0 : n = 0
  · subst h0
    go_enter Try.func44, Try.ntmps44
    by_cases hz : v = 0
    · have e1 : (v == 0) = true := by simp [hz]
      clear hz
      go_wp2_with fail
      go_ret
      refine ⟨ret_boolI ?_, rfl⟩
      unfold sgnB
      simp at e1 ⊢
      exact e1
    · have e1 : (v == 0) = false := by simp [hz]
      clear hz
      go_wp2_with fail
      go_ret
      refine ⟨ret_boolI ?_, rfl⟩
      unfold sgnB
      simp at e1 ⊢
      exact e1
  · have e0 : ((n : Int) == 0) = false := beq_eq_false_iff_ne.2 (by omega)
    have e1 : decide (0 < n) = true := decide_eq_true (by omega)
    have hs := Lib.hid (Sign_any w (u64V v) n ⟨by omega, by have := u64V_lt v; omega⟩ (by unfold IntR; omega))
    have hu := u64V_wrap v
    have hl := u64V_lt v
    have hr : sgnB v n = decide (signB (u64V v) n = v) := by unfold sgnB; rw [if_neg h0]
    rw [hr]
    clear hr
    generalize signB (u64V v) n = x at *
    generalize u64V v = u at *
    clear h0
    go_enter Try.func44, Try.ntmps44
    go_wp2_with fail
    refine hs.out.mono ?_
    rintro e w' ⟨rfl, rfl⟩
    go_wp2_with fail
    go_ret
    refine ⟨ret_boolI ?_, rfl⟩
    rw [Bool.eq_iff_iff]
    simp
set_option maxRecDepth 100000 in
set_option maxHeartbeats 4000000 in
theorem refSigned_any (w : World) (v : Int) (n : Nat) (hv : IntR v) (hn : n ≤ 8) : Calls Try.prog 75 #[.int .i64 v, .int .i64 n] w fun e w' => e = .returned (.bool (sgnB v n)) ∧ w = w' := by
  by_cases h8 : n = 8
  · subst h8
    rw [sgnB_8 hv]
    go_enter Try.func75, Try.ntmps75
    go_wp2_with fail
    go_ret
    exact ⟨rfl, rfl⟩
  by_cases h0 : n = 0
  · subst h0
    go_enter Try.func75, Try.ntmps75
    by_cases hz : v = 0
    · have e1 : (v == 0) = true := by simp [hz]
      clear hz h8
      go_wp2_with fail
      go_ret
      refine ⟨ret_boolI ?_, rfl⟩
      unfold sgnB
      simp at e1 ⊢
      exact e1
    · have e1 : (v == 0) = false := by simp [hz]
      clear hz h8
      go_wp2_with fail
      go_ret
      refine ⟨ret_boolI ?_, rfl⟩
      unfold sgnB
      simp at e1 ⊢
      exact e1
  · have e8 : ((n : Int) == 8) = false := beq_eq_false_iff_ne.2 (by omega)
    have e0 : ((n : Int) == 0) = false := beq_eq_false_iff_ne.2 (by omega)
    have e1 : decide (0 < n) = true := decide_eq_true (by omega)
    have hs := Lib.hid (refSign_any w (u64V v) n ⟨by omega, by have := u64V_lt v; omega⟩ (by unfold IntR; omega))
    have hu := u64V_wrap v
    have hl := u64V_lt v
    have hr : sgnB v n = decide (signB (u64V v) n = v) := by unfold sgnB; rw [if_neg h0]
    rw [hr]
    clear hr
    generalize signB (u64V v) n = x at *
    generalize u64V v = u at *
    clear h0 h8
    go_enter Try.func75, Try.ntmps75
    go_wp2_with fail
    refine hs.out.mono ?_
    rintro e w' ⟨rfl, rfl⟩
    go_wp2_with fail
    go_ret
    refine ⟨ret_boolI ?_, rfl⟩
    rw [Bool.eq_iff_iff]
    simp
    exact eq_comm
end Go.Proofs.Ytbcldlbmbdfejaa
