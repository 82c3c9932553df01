/- num: the reference's parts. No condition. -/
import Derived.Test.YtbbolbiepkehaaaNumInt
namespace Go.Proofs.Ytbbolbiepkehaaa
open Go.ChangeShapes Go.WideShapes Go.ChangeAt Go.RowKit
def U64 (n : Int) : Prop := 0 ≤ n ∧ n < 18446744073709551616
/-- A number with its sign, of so many bytes. -/
def signB (v n : Int) : Int := if n < 1 ∨ 8 < n then 0 else (v + 2 ^ (8 * n.toNat - 1)) % 2 ^ (8 * n.toNat) - 2 ^ (8 * n.toNat - 1)
theorem signB_odd (v n : Int) (h : n < 1 ∨ 8 < n) : signB v n = 0 := by unfold signB; rw [if_pos h]
theorem signB_4 (v : Int) : signB v 4 = wrap32 v := by unfold wrap32; rfl
theorem signB_8 (v : Int) : signB v 8 = wrap64 v := by unfold wrap64; rfl

set_option maxRecDepth 100000 in
set_option maxHeartbeats 2000000 in
theorem refSign_any (w : World) (v n : Int) (hv : U64 v) (hn : IntR n) : Calls Try.prog 16 #[.int .u64 v, .int .i64 n] w fun e w' => e = .returned (.int .i64 (signB v n)) ∧ w = w' := by
  obtain ⟨v1, v2⟩ := hv
  by_cases c1 : n < 1
  · rw [signB_odd v n (.inl c1)]
    have e1 := decide_eq_true c1
    go_enter Try.func16, Try.ntmps16
    go_wp2
    go_ret
    exact ⟨rfl, rfl⟩
  by_cases c2 : 8 < n
  · rw [signB_odd v n (.inr c2)]
    have e1 := decide_eq_false c1
    have e2 := decide_eq_true c2
    go_enter Try.func16, Try.ntmps16
    go_wp2
    go_ret
    exact ⟨rfl, rfl⟩
  have hc : n = 8 ∨ n = 1 ∨ n = 2 ∨ n = 3 ∨ n = 4 ∨ n = 5 ∨ n = 6 ∨ n = 7 := by omega
  clear c1 c2 hn
  rcases hc with rfl | hc
  · rw [signB_8]
    go_enter Try.func16, Try.ntmps16
    go_wp2
    go_ret
    exact ⟨rfl, rfl⟩
  have hmod : ∀ p : Int, v.tmod p = v % p := fun p => Int.tmod_eq_emod_of_nonneg v1
  rcases hc with rfl | rfl | rfl | rfl | rfl | rfl | rfl
  · rw [show signB v 1 = (v + 128) % 256 - 128 from rfl]
    have hm := hmod 256
    clear hmod
    by_cases hh : v % 256 < 128
    · go_enter Try.func16, Try.ntmps16
      go_wp2
      go_ret
      exact ⟨ret_int (by omega), rfl⟩
    · go_enter Try.func16, Try.ntmps16
      go_wp2
      go_ret
      exact ⟨ret_int (by omega), rfl⟩
  · rw [show signB v 2 = (v + 32768) % 65536 - 32768 from rfl]
    have hm := hmod 65536
    clear hmod
    by_cases hh : v % 65536 < 32768
    · go_enter Try.func16, Try.ntmps16
      go_wp2
      go_ret
      exact ⟨ret_int (by omega), rfl⟩
    · go_enter Try.func16, Try.ntmps16
      go_wp2
      go_ret
      exact ⟨ret_int (by omega), rfl⟩
  · rw [show signB v 3 = (v + 8388608) % 16777216 - 8388608 from rfl]
    have hm := hmod 16777216
    clear hmod
    by_cases hh : v % 16777216 < 8388608
    · go_enter Try.func16, Try.ntmps16
      go_wp2
      go_ret
      exact ⟨ret_int (by omega), rfl⟩
    · go_enter Try.func16, Try.ntmps16
      go_wp2
      go_ret
      exact ⟨ret_int (by omega), rfl⟩
  · rw [show signB v 4 = (v + 2147483648) % 4294967296 - 2147483648 from rfl]
    have hm := hmod 4294967296
    clear hmod
    by_cases hh : v % 4294967296 < 2147483648
    · go_enter Try.func16, Try.ntmps16
      go_wp2
      go_ret
      exact ⟨ret_int (by omega), rfl⟩
    · go_enter Try.func16, Try.ntmps16
      go_wp2
      go_ret
      exact ⟨ret_int (by omega), rfl⟩
  · rw [show signB v 5 = (v + 549755813888) % 1099511627776 - 549755813888 from rfl]
    have hm := hmod 1099511627776
    clear hmod
    by_cases hh : v % 1099511627776 < 549755813888
    · go_enter Try.func16, Try.ntmps16
      go_wp2
      go_ret
      exact ⟨ret_int (by omega), rfl⟩
    · go_enter Try.func16, Try.ntmps16
      go_wp2
      go_ret
      exact ⟨ret_int (by omega), rfl⟩
  · rw [show signB v 6 = (v + 140737488355328) % 281474976710656 - 140737488355328 from rfl]
    have hm := hmod 281474976710656
    clear hmod
    by_cases hh : v % 281474976710656 < 140737488355328
    · go_enter Try.func16, Try.ntmps16
      go_wp2
      go_ret
      exact ⟨ret_int (by omega), rfl⟩
    · go_enter Try.func16, Try.ntmps16
      go_wp2
      go_ret
      exact ⟨ret_int (by omega), rfl⟩
  · rw [show signB v 7 = (v + 36028797018963968) % 72057594037927936 - 36028797018963968 from rfl]
    have hm := hmod 72057594037927936
    clear hmod
    by_cases hh : v % 72057594037927936 < 36028797018963968
    · go_enter Try.func16, Try.ntmps16
      go_wp2
      go_ret
      exact ⟨ret_int (by omega), rfl⟩
    · go_enter Try.func16, Try.ntmps16
      go_wp2
      go_ret
      exact ⟨ret_int (by omega), rfl⟩

set_option maxRecDepth 100000 in
set_option maxHeartbeats 2000000 in
theorem back64_any (w : World) (v : Int) (hv : U64 v) : Calls Try.prog 28 #[.int .u64 v, .int .i64 64] w fun e w' => e = .returned (.int .i64 (wrap64 v)) ∧ w = w' := by
  obtain ⟨v1, v2⟩ := hv
  go_enter Try.func28, Try.ntmps28
  go_wp2
  go_ret
  exact ⟨rfl, rfl⟩
set_option maxRecDepth 100000 in
set_option maxHeartbeats 2000000 in
theorem back32_any (w : World) (v : Int) (hv : U64 v) : Calls Try.prog 28 #[.int .u64 v, .int .i64 32] w fun e w' => e = .returned (.int .i64 (wrap32 v)) ∧ w = w' := by
  have HV : Hid (U64 v) := hv
  clear hv
  go_enter Try.func28, Try.ntmps28
  go_wp2_with fail
  refine (refSign_any _ v 4 HV.out (by unfold IntR; omega)).mono ?_
  rw [signB_4]
  rintro e w' ⟨rfl, rfl⟩
  go_wp2
  go_ret
  exact ⟨rfl, rfl⟩
set_option maxRecDepth 100000 in
set_option maxHeartbeats 2000000 in
theorem bits64_any (w : World) (a : Int) (ha : IntR a) : Calls Try.prog 27 #[.int .i64 a, .int .i64 64] w fun e w' => e = .returned (.int .u64 (a % 18446744073709551616)) ∧ w = w' := by
  obtain ⟨a1, a2⟩ := ha
  go_enter Try.func27, Try.ntmps27
  go_wp2
  go_ret
  exact ⟨ret_int (by first | rfl | (rw [IntKind.wrap_u64])), rfl⟩
set_option maxRecDepth 100000 in
set_option maxHeartbeats 2000000 in
theorem bits32_any (w : World) (a : Int) (ha : IntR a) : Calls Try.prog 27 #[.int .i64 a, .int .i64 32] w fun e w' => e = .returned (.int .u64 (a % 4294967296)) ∧ w = w' := by
  obtain ⟨a1, a2⟩ := ha
  go_enter Try.func27, Try.ntmps27
  go_wp2
  go_ret
  exact ⟨ret_int (by rw [IntKind.wrap_u64, Int.tmod_eq_emod_of_nonneg (by omega)]; omega), rfl⟩
set_option maxRecDepth 100000 in
set_option maxHeartbeats 2000000 in
theorem power_any (w : World) (n : Nat) (hn : n ≤ 63) : Calls Try.prog 29 #[.int .u64 n] w fun e w' => e = .returned (.int .u64 ((2 ^ n : Nat) : Int)) ∧ w = w' := by
  go_enter Try.func29, Try.ntmps29
  go_wp2_with fail
  go_loopw [0, 3] (fun i v wr => ∃ k p : Nat, k ≤ n ∧ i = .int .u64 ((n - k : Nat) : Int) ∧ v = .int .u64 p ∧ Hid (p = 2 ^ k) ∧ wr = w) (fun i _ _ => (intOf i).toNat)
  case atStart => exact ⟨0, 1, Nat.zero_le _, rfl, rfl, rfl, rfl⟩
  case round =>
    obtain ⟨k, p, hk, rfl, rfl, HP, rfl⟩ := hrel
    by_cases hlt : k < n
    · have hp : p < 9223372036854775808 := by
        rw [HP.out]
        have : 2 ^ k ≤ 2 ^ 62 := Nat.pow_le_pow_right (by decide) (by omega)
        omega
      have hnk : 0 < n - k := by omega
      go_wp2
      go_roundw
      case rel => exact ⟨k + 1, p * 2, by omega, by go_num, by go_num, by show _ = _; rw [Nat.pow_succ, HP.out], trivial⟩
      case measure => simp [intOf]; omega
    · obtain rfl : k = n := by omega
      go_wp2
      go_ret
      exact ⟨by rw [HP.out]; rfl, rfl⟩
set_option maxRecDepth 100000 in
set_option maxHeartbeats 2000000 in
theorem int64Power_any (w : World) (n : Nat) (hn : n ≤ 62) : Calls Try.prog 30 #[.int .u64 n] w fun e w' => e = .returned (.int .i64 ((2 ^ n : Nat) : Int)) ∧ w = w' := by
  have HP := Lib.hid (power_any w n (by omega))
  have hb : 2 ^ n ≤ 2 ^ 62 := Nat.pow_le_pow_right (by decide) hn
  revert HP hb
  generalize (2 ^ n : Nat) = p
  intro HP hb
  go_enter Try.func30, Try.ntmps30
  go_wp2_with fail
  refine HP.out.mono ?_
  rintro e w' ⟨rfl, rfl⟩
  go_wp2
  go_ret
  exact ⟨ret_int (by first | rfl | omega | (unfold wrap64; omega)), rfl⟩
end Go.Proofs.Ytbbolbiepkehaaa
