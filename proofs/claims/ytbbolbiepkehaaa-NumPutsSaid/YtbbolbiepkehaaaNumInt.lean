/- num: Int and Long, and the reference's. No condition. (Printed by wip/gen/numint.py.) -/
import Derived.Test.YtbbolbiepkehaaaNumFn
namespace Go.Proofs.Ytbbolbiepkehaaa
open Go.ChangeShapes Go.WideShapes Go.ChangeAt Go.RowKit
theorem eq_no {a b : Int} (h : ¬ a = b) : (a == b) = false := by simp [h]
theorem mask5 (x : Int) (h : 0 ≤ x) (h1 : x < 18446744073709551616) : bits .and .u64 x 31 = x % 32 := by
  rw [u64_and x 31 h h1 (by decide) (by decide)]
  show ((x.toNat &&& 31 : Nat) : Int) = _
  rw [show (31 : Nat) = 2 ^ 5 - 1 from rfl, Nat.and_two_pow_sub_one_eq_mod]; omega
theorem mask6 (x : Int) (h : 0 ≤ x) (h1 : x < 18446744073709551616) : bits .and .u64 x 63 = x % 64 := by
  rw [u64_and x 63 h h1 (by decide) (by decide)]
  show ((x.toNat &&& 63 : Nat) : Int) = _
  rw [show (63 : Nat) = 2 ^ 6 - 1 from rfl, Nat.and_two_pow_sub_one_eq_mod]; omega

def R32 (n : Int) : Prop := -2147483648 ≤ n ∧ n ≤ 2147483647
/-- What is reckoned, of 32 bits. -/
def spec32 (op a b : Int) : Int × Int :=
  if op = 1 then (wrap32 (a + b), 0) else if op = 2 then (wrap32 (a - b), 0) else if op = 3 then (wrap32 (a * b), 0)
  else if op = 4 then (if b = 0 then (0, 2) else (wrap32 (a.tdiv b), 0))
  else if op = 5 then (if b = 0 then (0, 2) else (a.tmod b, 0))
  else if op = 6 then (bits .and .i32 a b, 0) else if op = 7 then (bits .or .i32 a b, 0) else if op = 8 then (bits .xor .i32 a b, 0)
  else if op = 9 then (wrap32 (a * 2 ^ (b % 32).toNat), 0)
  else if op = 10 then (a / 2 ^ (b % 32).toNat, 0)
  else if op = 11 then (wrap32 (a % 4294967296 / 2 ^ (b % 32).toNat), 0)
  else (0, 1)
set_option maxRecDepth 100000 in
set_option maxHeartbeats 2000000 in
theorem parts32_any (w : World) (op a b : Int) (ha : R32 a) (hb : R32 b) (ho : op = 4 ∨ op = 5) :
    Calls Try.prog 26 #[.int .i64 op, .int .i32 a, .int .i32 b] w fun e w' => e = .returned (.tuple #[.int .i32 (spec32 op a b).1, .int .i64 (spec32 op a b).2]) ∧ w = w' := by
  obtain ⟨a1, a2⟩ := ha
  obtain ⟨b1, b2⟩ := hb
  by_cases b0 : b = 0
  · subst b0
    have hR : spec32 op a 0 = (0, 2) := by rcases ho with rfl | rfl <;> simp [spec32]
    rw [hR]
    go_enter Try.func26, Try.ntmps26
    go_wp2
    go_ret2
    exact ⟨rfl, rfl⟩
  have e1 := eq_no b0
  by_cases b3 : b = -1
  · subst b3
    rcases ho with rfl | rfl
    · have hR : spec32 4 a (-1) = (wrap32 (-a), 0) := by simp [spec32]
      rw [hR]
      go_enter Try.func26, Try.ntmps26
      go_wp2
      go_ret2
      exact ⟨rfl, rfl⟩
    · have hR : spec32 5 a (-1) = (0, 0) := by simp [spec32]
      rw [hR]
      go_enter Try.func26, Try.ntmps26
      go_wp2
      go_ret2
      exact ⟨rfl, rfl⟩
  have e2 := eq_no b3
  rcases ho with rfl | rfl
  · have hR : spec32 4 a b = (wrap32 (a.tdiv b), 0) := by simp [spec32, b0]
    rw [hR]
    go_enter Try.func26, Try.ntmps26
    go_wp2
    go_ret2
    exact ⟨rfl, rfl⟩
  · have hR : spec32 5 a b = (a.tmod b, 0) := by simp [spec32, b0]
    rw [hR]
    go_enter Try.func26, Try.ntmps26
    go_wp2
    go_ret2
    exact ⟨rfl, rfl⟩
set_option maxRecDepth 100000 in
set_option maxHeartbeats 2000000 in
theorem plain32_any (w : World) (op a b : Int) (ha : R32 a) (hb : R32 b) (hop : IntR op) (n9 : ¬ op = 9) (n10 : ¬ op = 10) (n11 : ¬ op = 11) :
    Calls Try.prog 22 #[.int .i64 op, .int .i32 a, .int .i32 b] w fun e w' => e = .returned (.tuple #[.int .i32 (spec32 op a b).1, .int .i64 (spec32 op a b).2]) ∧ w = w' := by
  obtain ⟨a1, a2⟩ := ha
  obtain ⟨b1, b2⟩ := hb
  by_cases c1 : op = 1
  · subst c1
    rw [show spec32 1 a b = (wrap32 (a + b), 0) from rfl]
    clear n9 n10 n11 hop
    go_enter Try.func22, Try.ntmps22
    go_wp2
    go_ret2
    exact ⟨rfl, rfl⟩
  by_cases c2 : op = 2
  · subst c2
    rw [show spec32 2 a b = (wrap32 (a - b), 0) from rfl]
    clear n9 n10 n11 hop
    go_enter Try.func22, Try.ntmps22
    go_wp2
    go_ret2
    exact ⟨rfl, rfl⟩
  by_cases c3 : op = 3
  · subst c3
    rw [show spec32 3 a b = (wrap32 (a * b), 0) from rfl]
    clear n9 n10 n11 hop
    go_enter Try.func22, Try.ntmps22
    go_wp2
    go_ret2
    exact ⟨rfl, rfl⟩
  by_cases c6 : op = 6
  · subst c6
    rw [show spec32 6 a b = (bits .and .i32 a b, 0) from rfl]
    clear n9 n10 n11 hop
    go_enter Try.func22, Try.ntmps22
    go_wp2
    go_ret2
    exact ⟨rfl, rfl⟩
  by_cases c7 : op = 7
  · subst c7
    rw [show spec32 7 a b = (bits .or .i32 a b, 0) from rfl]
    clear n9 n10 n11 hop
    go_enter Try.func22, Try.ntmps22
    go_wp2
    go_ret2
    exact ⟨rfl, rfl⟩
  by_cases c8 : op = 8
  · subst c8
    rw [show spec32 8 a b = (bits .xor .i32 a b, 0) from rfl]
    clear n9 n10 n11 hop
    go_enter Try.func22, Try.ntmps22
    go_wp2
    go_ret2
    exact ⟨rfl, rfl⟩
  by_cases c4 : op = 4
  · subst c4
    clear n9 n10 n11 hop
    have HP := Lib.hid (parts32_any w 4 a b ⟨a1, a2⟩ ⟨b1, b2⟩ (by decide))
    revert HP
    generalize spec32 4 a b = r
    intro HP
    go_enter Try.func22, Try.ntmps22
    go_wp2_with fail
    refine HP.out.mono ?_
    rintro e w' ⟨rfl, rfl⟩
    go_wp2
    go_ret2
    exact ⟨rfl, rfl⟩
  by_cases c5 : op = 5
  · subst c5
    clear n9 n10 n11 hop
    have HP := Lib.hid (parts32_any w 5 a b ⟨a1, a2⟩ ⟨b1, b2⟩ (by decide))
    revert HP
    generalize spec32 5 a b = r
    intro HP
    go_enter Try.func22, Try.ntmps22
    go_wp2_with fail
    refine HP.out.mono ?_
    rintro e w' ⟨rfl, rfl⟩
    go_wp2
    go_ret2
    exact ⟨rfl, rfl⟩
  have hR : spec32 op a b = (0, 1) := by unfold spec32; simp only [c1, c2, c3, c4, c5, c6, c7, c8, n9, n10, n11, if_false]
  rw [hR]
  clear hR
  replace c1 := eq_no c1
  replace c2 := eq_no c2
  replace c3 := eq_no c3
  replace c4 := eq_no c4
  replace c5 := eq_no c5
  replace c6 := eq_no c6
  replace c7 := eq_no c7
  replace c8 := eq_no c8
  clear n9 n10 n11
  go_enter Try.func22, Try.ntmps22
  go_wp2
  go_ret2
  exact ⟨rfl, rfl⟩
set_option maxRecDepth 100000 in
set_option maxHeartbeats 2000000 in
theorem Int_any (w : World) (op a b : Int) (ha : R32 a) (hb : R32 b) (hop : IntR op) :
    Calls Try.prog 11 #[.int .i64 op, .int .i32 a, .int .i32 b] w fun e w' => e = .returned (.tuple #[.int .i32 (spec32 op a b).1, .int .i64 (spec32 op a b).2]) ∧ w = w' := by
  obtain ⟨a1, a2⟩ := ha
  obtain ⟨b1, b2⟩ := hb
  have hm := mask5 (IntKind.u64.wrap b) (by rw [IntKind.wrap_u64]; omega) (by rw [IntKind.wrap_u64]; omega)
  rw [show IntKind.u64.wrap b % 32 = b % 32 by rw [IntKind.wrap_u64]; omega] at hm
  obtain ⟨k, hk⟩ : ∃ k : Nat, k = (b % 32).toNat := ⟨_, rfl⟩
  have hk2 : b % 32 = (k : Int) := by omega
  have hk3 : k < 32 := by omega
  rw [hk2] at hm
  have hm2 := hm
  rw [IntKind.wrap_u64] at hm2
  have HK := Lib.hid hk
  have HK2 := Lib.hid hk2
  clear hk hk2
  by_cases c9 : op = 9
  · subst c9
    have hR : spec32 9 a b = (wrap32 (a * 2 ^ k), 0) := by simp [spec32, HK2.out]
    rw [hR]
    clear hR hop
    go_enter Try.func11, Try.ntmps11
    go_wp2
    go_ret2
    exact ⟨rfl, rfl⟩
  by_cases c10 : op = 10
  · subst c10
    have hR : spec32 10 a b = (a / 2 ^ k, 0) := by simp [spec32, HK2.out]
    rw [hR]
    clear hR hop
    go_enter Try.func11, Try.ntmps11
    go_wp2
    go_ret2
    exact ⟨rfl, rfl⟩
  by_cases c11 : op = 11
  · subst c11
    have hR : spec32 11 a b = (wrap32 (a % 4294967296 / 2 ^ k), 0) := by simp [spec32, HK2.out]
    rw [hR]
    clear hR hop
    go_enter Try.func11, Try.ntmps11
    go_wp2
    go_ret2
    exact ⟨rfl, rfl⟩
  have e9 := eq_no c9
  have e10 := eq_no c10
  have e11 := eq_no c11
  have N9 := Lib.hid c9
  have N10 := Lib.hid c10
  have N11 := Lib.hid c11
  clear c9 c10 c11
  have HP := Lib.hid (plain32_any w op a b ⟨a1, a2⟩ ⟨b1, b2⟩ hop N9.out N10.out N11.out)
  revert HP
  generalize spec32 op a b = r
  intro HP
  go_enter Try.func11, Try.ntmps11
  go_wp2_with fail
  refine HP.out.mono ?_
  rintro e w' ⟨rfl, rfl⟩
  go_wp2
  go_ret2
  exact ⟨rfl, rfl⟩
def R64 (n : Int) : Prop := -9223372036854775808 ≤ n ∧ n ≤ 9223372036854775807
/-- What is reckoned, of 64 bits. -/
def spec64 (op a b : Int) : Int × Int :=
  if op = 1 then (wrap64 (a + b), 0) else if op = 2 then (wrap64 (a - b), 0) else if op = 3 then (wrap64 (a * b), 0)
  else if op = 4 then (if b = 0 then (0, 2) else (wrap64 (a.tdiv b), 0))
  else if op = 5 then (if b = 0 then (0, 2) else (a.tmod b, 0))
  else if op = 6 then (bits .and .i64 a b, 0) else if op = 7 then (bits .or .i64 a b, 0) else if op = 8 then (bits .xor .i64 a b, 0)
  else if op = 9 then (wrap64 (a * 2 ^ (b % 64).toNat), 0)
  else if op = 10 then (a / 2 ^ (b % 64).toNat, 0)
  else if op = 11 then (wrap64 (a % 18446744073709551616 / 2 ^ (b % 64).toNat), 0)
  else (0, 1)
set_option maxRecDepth 100000 in
set_option maxHeartbeats 2000000 in
theorem parts64_any (w : World) (op a b : Int) (ha : R64 a) (hb : R64 b) (ho : op = 4 ∨ op = 5) :
    Calls Try.prog 31 #[.int .i64 op, .int .i64 a, .int .i64 b] w fun e w' => e = .returned (.tuple #[.int .i64 (spec64 op a b).1, .int .i64 (spec64 op a b).2]) ∧ w = w' := by
  obtain ⟨a1, a2⟩ := ha
  obtain ⟨b1, b2⟩ := hb
  by_cases b0 : b = 0
  · subst b0
    have hR : spec64 op a 0 = (0, 2) := by rcases ho with rfl | rfl <;> simp [spec64]
    rw [hR]
    go_enter Try.func31, Try.ntmps31
    go_wp2
    go_ret2
    exact ⟨rfl, rfl⟩
  have e1 := eq_no b0
  by_cases b3 : b = -1
  · subst b3
    rcases ho with rfl | rfl
    · have hR : spec64 4 a (-1) = (wrap64 (-a), 0) := by simp [spec64]
      rw [hR]
      go_enter Try.func31, Try.ntmps31
      go_wp2
      go_ret2
      exact ⟨rfl, rfl⟩
    · have hR : spec64 5 a (-1) = (0, 0) := by simp [spec64]
      rw [hR]
      go_enter Try.func31, Try.ntmps31
      go_wp2
      go_ret2
      exact ⟨rfl, rfl⟩
  have e2 := eq_no b3
  rcases ho with rfl | rfl
  · have hR : spec64 4 a b = (wrap64 (a.tdiv b), 0) := by simp [spec64, b0]
    rw [hR]
    go_enter Try.func31, Try.ntmps31
    go_wp2
    go_ret2
    exact ⟨rfl, rfl⟩
  · have hR : spec64 5 a b = (a.tmod b, 0) := by simp [spec64, b0]
    rw [hR]
    go_enter Try.func31, Try.ntmps31
    go_wp2
    go_ret2
    exact ⟨rfl, rfl⟩
set_option maxRecDepth 100000 in
set_option maxHeartbeats 2000000 in
theorem plain64_any (w : World) (op a b : Int) (ha : R64 a) (hb : R64 b) (hop : IntR op) (n9 : ¬ op = 9) (n10 : ¬ op = 10) (n11 : ¬ op = 11) :
    Calls Try.prog 24 #[.int .i64 op, .int .i64 a, .int .i64 b] w fun e w' => e = .returned (.tuple #[.int .i64 (spec64 op a b).1, .int .i64 (spec64 op a b).2]) ∧ w = w' := by
  obtain ⟨a1, a2⟩ := ha
  obtain ⟨b1, b2⟩ := hb
  by_cases c1 : op = 1
  · subst c1
    rw [show spec64 1 a b = (wrap64 (a + b), 0) from rfl]
    clear n9 n10 n11 hop
    go_enter Try.func24, Try.ntmps24
    go_wp2
    go_ret2
    exact ⟨rfl, rfl⟩
  by_cases c2 : op = 2
  · subst c2
    rw [show spec64 2 a b = (wrap64 (a - b), 0) from rfl]
    clear n9 n10 n11 hop
    go_enter Try.func24, Try.ntmps24
    go_wp2
    go_ret2
    exact ⟨rfl, rfl⟩
  by_cases c3 : op = 3
  · subst c3
    rw [show spec64 3 a b = (wrap64 (a * b), 0) from rfl]
    clear n9 n10 n11 hop
    go_enter Try.func24, Try.ntmps24
    go_wp2
    go_ret2
    exact ⟨rfl, rfl⟩
  by_cases c6 : op = 6
  · subst c6
    rw [show spec64 6 a b = (bits .and .i64 a b, 0) from rfl]
    clear n9 n10 n11 hop
    go_enter Try.func24, Try.ntmps24
    go_wp2
    go_ret2
    exact ⟨rfl, rfl⟩
  by_cases c7 : op = 7
  · subst c7
    rw [show spec64 7 a b = (bits .or .i64 a b, 0) from rfl]
    clear n9 n10 n11 hop
    go_enter Try.func24, Try.ntmps24
    go_wp2
    go_ret2
    exact ⟨rfl, rfl⟩
  by_cases c8 : op = 8
  · subst c8
    rw [show spec64 8 a b = (bits .xor .i64 a b, 0) from rfl]
    clear n9 n10 n11 hop
    go_enter Try.func24, Try.ntmps24
    go_wp2
    go_ret2
    exact ⟨rfl, rfl⟩
  by_cases c4 : op = 4
  · subst c4
    clear n9 n10 n11 hop
    have HP := Lib.hid (parts64_any w 4 a b ⟨a1, a2⟩ ⟨b1, b2⟩ (by decide))
    revert HP
    generalize spec64 4 a b = r
    intro HP
    go_enter Try.func24, Try.ntmps24
    go_wp2_with fail
    refine HP.out.mono ?_
    rintro e w' ⟨rfl, rfl⟩
    go_wp2
    go_ret2
    exact ⟨rfl, rfl⟩
  by_cases c5 : op = 5
  · subst c5
    clear n9 n10 n11 hop
    have HP := Lib.hid (parts64_any w 5 a b ⟨a1, a2⟩ ⟨b1, b2⟩ (by decide))
    revert HP
    generalize spec64 5 a b = r
    intro HP
    go_enter Try.func24, Try.ntmps24
    go_wp2_with fail
    refine HP.out.mono ?_
    rintro e w' ⟨rfl, rfl⟩
    go_wp2
    go_ret2
    exact ⟨rfl, rfl⟩
  have hR : spec64 op a b = (0, 1) := by unfold spec64; simp only [c1, c2, c3, c4, c5, c6, c7, c8, n9, n10, n11, if_false]
  rw [hR]
  clear hR
  replace c1 := eq_no c1
  replace c2 := eq_no c2
  replace c3 := eq_no c3
  replace c4 := eq_no c4
  replace c5 := eq_no c5
  replace c6 := eq_no c6
  replace c7 := eq_no c7
  replace c8 := eq_no c8
  clear n9 n10 n11
  go_enter Try.func24, Try.ntmps24
  go_wp2
  go_ret2
  exact ⟨rfl, rfl⟩
set_option maxRecDepth 100000 in
set_option maxHeartbeats 2000000 in
theorem Long_any (w : World) (op a b : Int) (ha : R64 a) (hb : R64 b) (hop : IntR op) :
    Calls Try.prog 17 #[.int .i64 op, .int .i64 a, .int .i64 b] w fun e w' => e = .returned (.tuple #[.int .i64 (spec64 op a b).1, .int .i64 (spec64 op a b).2]) ∧ w = w' := by
  obtain ⟨a1, a2⟩ := ha
  obtain ⟨b1, b2⟩ := hb
  have hm := mask6 (IntKind.u64.wrap b) (by rw [IntKind.wrap_u64]; omega) (by rw [IntKind.wrap_u64]; omega)
  rw [show IntKind.u64.wrap b % 64 = b % 64 by rw [IntKind.wrap_u64]; omega] at hm
  obtain ⟨k, hk⟩ : ∃ k : Nat, k = (b % 64).toNat := ⟨_, rfl⟩
  have hk2 : b % 64 = (k : Int) := by omega
  have hk3 : k < 64 := by omega
  rw [hk2] at hm
  have hm2 := hm
  rw [IntKind.wrap_u64] at hm2
  have HK := Lib.hid hk
  have HK2 := Lib.hid hk2
  clear hk hk2
  by_cases c9 : op = 9
  · subst c9
    have hR : spec64 9 a b = (wrap64 (a * 2 ^ k), 0) := by simp [spec64, HK2.out]
    rw [hR]
    clear hR hop
    go_enter Try.func17, Try.ntmps17
    go_wp2
    go_ret2
    exact ⟨rfl, rfl⟩
  by_cases c10 : op = 10
  · subst c10
    have hR : spec64 10 a b = (a / 2 ^ k, 0) := by simp [spec64, HK2.out]
    rw [hR]
    clear hR hop
    go_enter Try.func17, Try.ntmps17
    go_wp2
    go_ret2
    exact ⟨rfl, rfl⟩
  by_cases c11 : op = 11
  · subst c11
    have hR : spec64 11 a b = (wrap64 (a % 18446744073709551616 / 2 ^ k), 0) := by simp [spec64, HK2.out]
    rw [hR]
    clear hR hop
    go_enter Try.func17, Try.ntmps17
    go_wp2
    go_ret2
    exact ⟨rfl, rfl⟩
  have e9 := eq_no c9
  have e10 := eq_no c10
  have e11 := eq_no c11
  have N9 := Lib.hid c9
  have N10 := Lib.hid c10
  have N11 := Lib.hid c11
  clear c9 c10 c11
  have HP := Lib.hid (plain64_any w op a b ⟨a1, a2⟩ ⟨b1, b2⟩ hop N9.out N10.out N11.out)
  revert HP
  generalize spec64 op a b = r
  intro HP
  go_enter Try.func17, Try.ntmps17
  go_wp2_with fail
  refine HP.out.mono ?_
  rintro e w' ⟨rfl, rfl⟩
  go_wp2
  go_ret2
  exact ⟨rfl, rfl⟩
end Go.Proofs.Ytbbolbiepkehaaa
