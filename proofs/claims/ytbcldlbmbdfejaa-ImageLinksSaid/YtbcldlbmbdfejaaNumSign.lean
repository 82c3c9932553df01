/- num: Sign, the program's and the reference's. No condition. -/
import Derived.Test.YtbcldlbmbdfejaaNumFn
import Derived.Test.YtbcldlbmbdfejaaNumPlain2
namespace Go.Proofs.Ytbcldlbmbdfejaa
open Go.ChangeShapes Go.WideShapes Go.ChangeAt Go.RowKit
def U64 (n : Int) : Prop := 0 ≤ n ∧ n < 18446744073709551616
/-- A number with its sign, of so many bytes. -/
def signB (v n : Int) : Int := if n < 1 ∨ 8 < n then 0 else (v + 2 ^ (8 * n.toNat - 1)) % 2 ^ (8 * n.toNat) - 2 ^ (8 * n.toNat - 1)
theorem signB_odd (v n : Int) (h : n < 1 ∨ 8 < n) : signB v n = 0 := by unfold signB; rw [if_pos h]
theorem signB_4 (v : Int) : signB v 4 = wrap32 v := by unfold wrap32; rfl
theorem signB_8 (v : Int) : signB v 8 = wrap64 v := by unfold wrap64; rfl

set_option maxRecDepth 100000 in
set_option maxHeartbeats 2000000 in
theorem refSign_any (w : World) (v n : Int) (hv : U64 v) (hn : IntR n) : Calls Try.prog 52 #[.int .u64 v, .int .i64 n] w fun e w' => e = .returned (.int .i64 (signB v n)) ∧ w = w' := by
  obtain ⟨v1, v2⟩ := hv
  by_cases c1 : n < 1
  · rw [signB_odd v n (.inl c1)]
    have e1 := decide_eq_true c1
    go_enter Try.func52, Try.ntmps52
    go_wp2
    go_ret
    exact ⟨rfl, rfl⟩
  by_cases c2 : 8 < n
  · rw [signB_odd v n (.inr c2)]
    have e1 := decide_eq_false c1
    have e2 := decide_eq_true c2
    go_enter Try.func52, Try.ntmps52
    go_wp2
    go_ret
    exact ⟨rfl, rfl⟩
  have hc : n = 8 ∨ n = 1 ∨ n = 2 ∨ n = 3 ∨ n = 4 ∨ n = 5 ∨ n = 6 ∨ n = 7 := by omega
  clear c1 c2 hn
  rcases hc with rfl | hc
  · rw [signB_8]
    go_enter Try.func52, Try.ntmps52
    go_wp2
    go_ret
    exact ⟨rfl, rfl⟩
  have hmod : ∀ p : Int, v.tmod p = v % p := fun p => Int.tmod_eq_emod_of_nonneg v1
  rcases hc with rfl | rfl | rfl | rfl | rfl | rfl | rfl
  · rw [show signB v 1 = (v + 128) % 256 - 128 from rfl]
    have hm := hmod 256
    clear hmod
    by_cases hh : v % 256 < 128
    · go_enter Try.func52, Try.ntmps52
      go_wp2
      go_ret
      exact ⟨ret_int (by omega), rfl⟩
    · go_enter Try.func52, Try.ntmps52
      go_wp2
      go_ret
      exact ⟨ret_int (by omega), rfl⟩
  · rw [show signB v 2 = (v + 32768) % 65536 - 32768 from rfl]
    have hm := hmod 65536
    clear hmod
    by_cases hh : v % 65536 < 32768
    · go_enter Try.func52, Try.ntmps52
      go_wp2
      go_ret
      exact ⟨ret_int (by omega), rfl⟩
    · go_enter Try.func52, Try.ntmps52
      go_wp2
      go_ret
      exact ⟨ret_int (by omega), rfl⟩
  · rw [show signB v 3 = (v + 8388608) % 16777216 - 8388608 from rfl]
    have hm := hmod 16777216
    clear hmod
    by_cases hh : v % 16777216 < 8388608
    · go_enter Try.func52, Try.ntmps52
      go_wp2
      go_ret
      exact ⟨ret_int (by omega), rfl⟩
    · go_enter Try.func52, Try.ntmps52
      go_wp2
      go_ret
      exact ⟨ret_int (by omega), rfl⟩
  · rw [show signB v 4 = (v + 2147483648) % 4294967296 - 2147483648 from rfl]
    have hm := hmod 4294967296
    clear hmod
    by_cases hh : v % 4294967296 < 2147483648
    · go_enter Try.func52, Try.ntmps52
      go_wp2
      go_ret
      exact ⟨ret_int (by omega), rfl⟩
    · go_enter Try.func52, Try.ntmps52
      go_wp2
      go_ret
      exact ⟨ret_int (by omega), rfl⟩
  · rw [show signB v 5 = (v + 549755813888) % 1099511627776 - 549755813888 from rfl]
    have hm := hmod 1099511627776
    clear hmod
    by_cases hh : v % 1099511627776 < 549755813888
    · go_enter Try.func52, Try.ntmps52
      go_wp2
      go_ret
      exact ⟨ret_int (by omega), rfl⟩
    · go_enter Try.func52, Try.ntmps52
      go_wp2
      go_ret
      exact ⟨ret_int (by omega), rfl⟩
  · rw [show signB v 6 = (v + 140737488355328) % 281474976710656 - 140737488355328 from rfl]
    have hm := hmod 281474976710656
    clear hmod
    by_cases hh : v % 281474976710656 < 140737488355328
    · go_enter Try.func52, Try.ntmps52
      go_wp2
      go_ret
      exact ⟨ret_int (by omega), rfl⟩
    · go_enter Try.func52, Try.ntmps52
      go_wp2
      go_ret
      exact ⟨ret_int (by omega), rfl⟩
  · rw [show signB v 7 = (v + 36028797018963968) % 72057594037927936 - 36028797018963968 from rfl]
    have hm := hmod 72057594037927936
    clear hmod
    by_cases hh : v % 72057594037927936 < 36028797018963968
    · go_enter Try.func52, Try.ntmps52
      go_wp2
      go_ret
      exact ⟨ret_int (by omega), rfl⟩
    · go_enter Try.func52, Try.ntmps52
      go_wp2
      go_ret
      exact ⟨ret_int (by omega), rfl⟩

set_option maxRecDepth 100000 in
set_option maxHeartbeats 2000000 in
theorem Sign_any (w : World) (v n : Int) (hv : U64 v) (hn : IntR n) : Calls Try.prog 49 #[.int .u64 v, .int .i64 n] w fun e w' => e = .returned (.int .i64 (signB v n)) ∧ w = w' := by
  obtain ⟨v1, v2⟩ := hv
  by_cases c1 : n < 1 ∨ 8 < n
  · rw [signB_odd v n c1]
    have hd : decide (1 ≤ n ∧ n ≤ 8) = false := decide_eq_false (by omega)
    clear c1
    go_enter Try.func49, Try.ntmps49
    go_wp2_with fail
    refine (right_any _ n).mono ?_
    rw [hd]
    rintro e w' ⟨rfl, rfl⟩
    go_wp2
    go_ret
    exact ⟨rfl, rfl⟩
  have hc : n = 1 ∨ n = 2 ∨ n = 3 ∨ n = 4 ∨ n = 5 ∨ n = 6 ∨ n = 7 ∨ n = 8 := by omega
  clear c1 hn
  rcases hc with rfl | rfl | rfl | rfl | rfl | rfl | rfl | rfl
  · rw [show signB v 1 = (v + 128) % 256 - 128 from rfl]
    go_enter Try.func49, Try.ntmps49
    go_wp2_with fail
    refine (right_any _ 1).mono ?_
    rw [show decide ((1 : Int) ≤ 1 ∧ (1 : Int) ≤ 8) = true from rfl]
    rintro e w' ⟨rfl, rfl⟩
    go_wp2
    go_ret
    exact ⟨ret_int (by simp only [IntKind.wrap_u64, wrap64] <;> omega), rfl⟩
  · rw [show signB v 2 = (v + 32768) % 65536 - 32768 from rfl]
    go_enter Try.func49, Try.ntmps49
    go_wp2_with fail
    refine (right_any _ 2).mono ?_
    rw [show decide ((1 : Int) ≤ 2 ∧ (2 : Int) ≤ 8) = true from rfl]
    rintro e w' ⟨rfl, rfl⟩
    go_wp2
    go_ret
    exact ⟨ret_int (by simp only [IntKind.wrap_u64, wrap64] <;> omega), rfl⟩
  · rw [show signB v 3 = (v + 8388608) % 16777216 - 8388608 from rfl]
    go_enter Try.func49, Try.ntmps49
    go_wp2_with fail
    refine (right_any _ 3).mono ?_
    rw [show decide ((1 : Int) ≤ 3 ∧ (3 : Int) ≤ 8) = true from rfl]
    rintro e w' ⟨rfl, rfl⟩
    go_wp2
    go_ret
    exact ⟨ret_int (by simp only [IntKind.wrap_u64, wrap64] <;> omega), rfl⟩
  · rw [show signB v 4 = (v + 2147483648) % 4294967296 - 2147483648 from rfl]
    go_enter Try.func49, Try.ntmps49
    go_wp2_with fail
    refine (right_any _ 4).mono ?_
    rw [show decide ((1 : Int) ≤ 4 ∧ (4 : Int) ≤ 8) = true from rfl]
    rintro e w' ⟨rfl, rfl⟩
    go_wp2
    go_ret
    exact ⟨ret_int (by simp only [IntKind.wrap_u64, wrap64] <;> omega), rfl⟩
  · rw [show signB v 5 = (v + 549755813888) % 1099511627776 - 549755813888 from rfl]
    go_enter Try.func49, Try.ntmps49
    go_wp2_with fail
    refine (right_any _ 5).mono ?_
    rw [show decide ((1 : Int) ≤ 5 ∧ (5 : Int) ≤ 8) = true from rfl]
    rintro e w' ⟨rfl, rfl⟩
    go_wp2
    go_ret
    exact ⟨ret_int (by simp only [IntKind.wrap_u64, wrap64] <;> omega), rfl⟩
  · rw [show signB v 6 = (v + 140737488355328) % 281474976710656 - 140737488355328 from rfl]
    go_enter Try.func49, Try.ntmps49
    go_wp2_with fail
    refine (right_any _ 6).mono ?_
    rw [show decide ((1 : Int) ≤ 6 ∧ (6 : Int) ≤ 8) = true from rfl]
    rintro e w' ⟨rfl, rfl⟩
    go_wp2
    go_ret
    exact ⟨ret_int (by simp only [IntKind.wrap_u64, wrap64] <;> omega), rfl⟩
  · rw [show signB v 7 = (v + 36028797018963968) % 72057594037927936 - 36028797018963968 from rfl]
    go_enter Try.func49, Try.ntmps49
    go_wp2_with fail
    refine (right_any _ 7).mono ?_
    rw [show decide ((1 : Int) ≤ 7 ∧ (7 : Int) ≤ 8) = true from rfl]
    rintro e w' ⟨rfl, rfl⟩
    go_wp2
    go_ret
    exact ⟨ret_int (by simp only [IntKind.wrap_u64, wrap64] <;> omega), rfl⟩
  · rw [show signB v 8 = (v + 9223372036854775808) % 18446744073709551616 - 9223372036854775808 from rfl]
    go_enter Try.func49, Try.ntmps49
    go_wp2_with fail
    refine (right_any _ 8).mono ?_
    rw [show decide ((1 : Int) ≤ 8 ∧ (8 : Int) ≤ 8) = true from rfl]
    rintro e w' ⟨rfl, rfl⟩
    go_wp2
    go_ret
    exact ⟨ret_int (by simp only [IntKind.wrap_u64, wrap64] <;> omega), rfl⟩
end Go.Proofs.Ytbcldlbmbdfejaa
