/- num: the reference's reckoning. No condition. (Printed by wip/gen/reckon.py.) -/
import Derived.Test.YtbbolbiepkehaaaNumRef
namespace Go.Proofs.Ytbbolbiepkehaaa
open Go.ChangeShapes Go.WideShapes Go.ChangeAt Go.RowKit
theorem ret_tup {k k' : IntKind} {a b c : Int} (h : a = b) : Ending.returned (.tuple #[.int k a, .int k' c]) = .returned (.tuple #[.int k b, .int k' c]) := by rw [h]
theorem floor_neg (a : Int) (p : Nat) (hp : 0 < p) : -1 - (-1 - a) / (p : Int) = a / (p : Int) := by
  have h1 := Int.mul_ediv_add_emod a p
  have h2 := Int.mul_ediv_add_emod (-1 - a) p
  have h3 := Int.emod_nonneg a (show (p : Int) ≠ 0 by omega)
  have h4 := Int.emod_lt_of_pos a (show (0 : Int) < p by omega)
  have h5 := Int.emod_nonneg (-1 - a) (show (p : Int) ≠ 0 by omega)
  have h6 := Int.emod_lt_of_pos (-1 - a) (show (0 : Int) < p by omega)
  generalize a / (p : Int) = q at *
  generalize (-1 - a) / (p : Int) = r at *
  generalize a % (p : Int) = s at *
  generalize (-1 - a) % (p : Int) = t at *
  have h7 : (p : Int) * (q + r + 1) = p - 1 - s - t := by rw [Int.mul_add, Int.mul_add]; omega
  have h8 : q + r + 1 = 0 := by
    rcases Int.lt_trichotomy (q + r + 1) 0 with h | h | h
    · have := Int.mul_le_mul_of_nonneg_left (show q + r + 1 ≤ -1 by omega) (show (0 : Int) ≤ p by omega)
      omega
    · exact h
    · have := Int.mul_le_mul_of_nonneg_left (show (1 : Int) ≤ q + r + 1 by omega) (show (0 : Int) ≤ p by omega)
      omega
  omega
theorem ediv_le (a : Int) (p : Nat) (h : 0 ≤ a) : 0 ≤ a / (p : Int) ∧ a / (p : Int) ≤ a := ⟨Int.ediv_nonneg h (by omega), Int.ediv_le_self _ h⟩

theorem wrap32_id {n : Int} (h : R32 n) : wrap32 n = n := by obtain ⟨h1, h2⟩ := h; unfold wrap32; omega
theorem wrap32_mul (a b : Int) : wrap32 ((a % 4294967296 * (b % 4294967296)) % 18446744073709551616) = wrap32 (a * b) := by
  have h := Int.mul_emod a b 4294967296
  unfold wrap32
  generalize a % 4294967296 * (b % 4294967296) = t at *
  generalize a * b = u at *
  omega
theorem wrap32_mul2 (a p : Int) : wrap32 ((a % 4294967296 * p) % 18446744073709551616) = wrap32 (a * p) := by
  have h1 : (a % 4294967296 * p) % 4294967296 = (a * p) % 4294967296 := by rw [Int.mul_emod, Int.emod_emod, ← Int.mul_emod]
  unfold wrap32
  generalize a % 4294967296 * p = t at *
  generalize a * p = u at *
  omega
theorem wrap32_and (a b : Int) : wrap32 (bits .and .u64 (a % 4294967296) (b % 4294967296)) = bits .and .i32 a b := by
  rw [u64_and _ _ (by omega) (by omega) (by omega) (by omega)]
  unfold bits
  simp only []
  show wrap32 (((a % 4294967296).toNat &&& (b % 4294967296).toNat : Nat) : Int) = IntKind.i32.wrap ((BitVec.ofInt 32 a &&& BitVec.ofInt 32 b).toNat)
  unfold wrap32
  rw [BitVec.toNat_and, BitVec.toNat_ofInt, BitVec.toNat_ofInt, IntKind.wrap_i32, show ((2 ^ 32 : Nat) : Int) = 4294967296 from rfl]
theorem wrap32_or (a b : Int) : wrap32 (bits .or .u64 (a % 4294967296) (b % 4294967296)) = bits .or .i32 a b := by
  rw [u64_or _ _ (by omega) (by omega) (by omega) (by omega)]
  unfold bits
  simp only []
  show wrap32 (((a % 4294967296).toNat ||| (b % 4294967296).toNat : Nat) : Int) = IntKind.i32.wrap ((BitVec.ofInt 32 a ||| BitVec.ofInt 32 b).toNat)
  unfold wrap32
  rw [BitVec.toNat_or, BitVec.toNat_ofInt, BitVec.toNat_ofInt, IntKind.wrap_i32, show ((2 ^ 32 : Nat) : Int) = 4294967296 from rfl]
theorem wrap32_xor (a b : Int) : wrap32 (bits .xor .u64 (a % 4294967296) (b % 4294967296)) = bits .xor .i32 a b := by
  rw [u64_xor _ _ (by omega) (by omega) (by omega) (by omega)]
  unfold bits
  simp only []
  show wrap32 (((a % 4294967296).toNat ^^^ (b % 4294967296).toNat : Nat) : Int) = IntKind.i32.wrap ((BitVec.ofInt 32 a ^^^ BitVec.ofInt 32 b).toNat)
  unfold wrap32
  rw [BitVec.toNat_xor, BitVec.toNat_ofInt, BitVec.toNat_ofInt, IntKind.wrap_i32, show ((2 ^ 32 : Nat) : Int) = 4294967296 from rfl]
theorem spec32_other {op a b : Int} (c : ∀ k : Int, 1 ≤ k → k ≤ 11 → ¬ op = k) : spec32 op a b = (0, 1) := by
  unfold spec32
  simp only [c 1 (by decide) (by decide), c 2 (by decide) (by decide), c 3 (by decide) (by decide), c 4 (by decide) (by decide), c 5 (by decide) (by decide), c 6 (by decide) (by decide), c 7 (by decide) (by decide), c 8 (by decide) (by decide), c 9 (by decide) (by decide), c 10 (by decide) (by decide), c 11 (by decide) (by decide), if_false]
set_option maxRecDepth 100000 in
set_option maxHeartbeats 2000000 in
theorem reckon32_1 (w : World) (a b : Int) (ha : R32 a) (hb : R32 b) :
    Calls Try.prog 23 #[.int .i64 1, .int .i64 a, .int .i64 b, .int .i64 32] w fun e w' => e = .returned (.tuple #[.int .i64 (spec32 1 a b).1, .int .i64 (spec32 1 a b).2]) ∧ w = w' := by
  have HA : Hid (IntR a) := by obtain ⟨h1, h2⟩ := ha; exact ⟨by omega, by omega⟩
  have HB : Hid (IntR b) := by obtain ⟨h1, h2⟩ := hb; exact ⟨by omega, by omega⟩
  obtain ⟨a1, a2⟩ := ha
  obtain ⟨b1, b2⟩ := hb
  obtain ⟨x, hx⟩ : ∃ x : Int, x = a % 4294967296 := ⟨_, rfl⟩
  obtain ⟨y, hy⟩ : ∃ y : Int, y = b % 4294967296 := ⟨_, rfl⟩
  have x1 : 0 ≤ x := by omega
  have x2 : x < 4294967296 := by omega
  have y1 : 0 ≤ y := by omega
  have y2 : y < 4294967296 := by omega
  obtain ⟨k, hk⟩ : ∃ k : Nat, k = (b % 32).toNat := ⟨_, rfl⟩
  have hk2 : b % 32 = (k : Int) := by omega
  have hk3 : k < 32 := by omega
  have hy2 : y.tmod 32 = (k : Int) := by rw [Int.tmod_eq_emod_of_nonneg y1]; omega
  have HX := Lib.hid hx
  have HY := Lib.hid hy
  have HK := Lib.hid hk
  have HK2 := Lib.hid hk2
  clear hx hy hk hk2
  rw [show spec32 1 a b = (wrap32 (a + b), 0) from rfl]
  go_enter Try.func23, Try.ntmps23
  go_wp2_with fail
  refine (bits32_any _ a HA.out).mono ?_
  rw [← HX.out]
  rintro e w' ⟨rfl, rfl⟩
  go_wp2_with fail
  refine (bits32_any _ b HB.out).mono ?_
  rw [← HY.out]
  rintro e w' ⟨rfl, rfl⟩
  go_wp2_with fail
  refine (back32_any _ (x + y) ⟨by omega, by omega⟩).mono ?_
  rintro e w' ⟨rfl, rfl⟩
  go_wp2
  go_ret2
  exact ⟨ret_tup (by (try rw [IntKind.wrap_u64]); rw [HX.out, HY.out]; unfold wrap32; omega), rfl⟩
set_option maxRecDepth 100000 in
set_option maxHeartbeats 2000000 in
theorem reckon32_2 (w : World) (a b : Int) (ha : R32 a) (hb : R32 b) :
    Calls Try.prog 23 #[.int .i64 2, .int .i64 a, .int .i64 b, .int .i64 32] w fun e w' => e = .returned (.tuple #[.int .i64 (spec32 2 a b).1, .int .i64 (spec32 2 a b).2]) ∧ w = w' := by
  have HA : Hid (IntR a) := by obtain ⟨h1, h2⟩ := ha; exact ⟨by omega, by omega⟩
  have HB : Hid (IntR b) := by obtain ⟨h1, h2⟩ := hb; exact ⟨by omega, by omega⟩
  obtain ⟨a1, a2⟩ := ha
  obtain ⟨b1, b2⟩ := hb
  obtain ⟨x, hx⟩ : ∃ x : Int, x = a % 4294967296 := ⟨_, rfl⟩
  obtain ⟨y, hy⟩ : ∃ y : Int, y = b % 4294967296 := ⟨_, rfl⟩
  have x1 : 0 ≤ x := by omega
  have x2 : x < 4294967296 := by omega
  have y1 : 0 ≤ y := by omega
  have y2 : y < 4294967296 := by omega
  obtain ⟨k, hk⟩ : ∃ k : Nat, k = (b % 32).toNat := ⟨_, rfl⟩
  have hk2 : b % 32 = (k : Int) := by omega
  have hk3 : k < 32 := by omega
  have hy2 : y.tmod 32 = (k : Int) := by rw [Int.tmod_eq_emod_of_nonneg y1]; omega
  have HX := Lib.hid hx
  have HY := Lib.hid hy
  have HK := Lib.hid hk
  have HK2 := Lib.hid hk2
  clear hx hy hk hk2
  rw [show spec32 2 a b = (wrap32 (a - b), 0) from rfl]
  go_enter Try.func23, Try.ntmps23
  go_wp2_with fail
  refine (bits32_any _ a HA.out).mono ?_
  rw [← HX.out]
  rintro e w' ⟨rfl, rfl⟩
  go_wp2_with fail
  refine (bits32_any _ b HB.out).mono ?_
  rw [← HY.out]
  rintro e w' ⟨rfl, rfl⟩
  go_wp2_with fail
  refine (back32_any _ (IntKind.u64.wrap (x - y)) (by rw [IntKind.wrap_u64]; exact ⟨Int.emod_nonneg _ (by decide), Int.emod_lt_of_pos _ (by decide)⟩)).mono ?_
  rintro e w' ⟨rfl, rfl⟩
  go_wp2
  go_ret2
  exact ⟨ret_tup (by rw [IntKind.wrap_u64, HX.out, HY.out]; unfold wrap32; omega), rfl⟩
set_option maxRecDepth 100000 in
set_option maxHeartbeats 2000000 in
theorem reckon32_3 (w : World) (a b : Int) (ha : R32 a) (hb : R32 b) :
    Calls Try.prog 23 #[.int .i64 3, .int .i64 a, .int .i64 b, .int .i64 32] w fun e w' => e = .returned (.tuple #[.int .i64 (spec32 3 a b).1, .int .i64 (spec32 3 a b).2]) ∧ w = w' := by
  have HA : Hid (IntR a) := by obtain ⟨h1, h2⟩ := ha; exact ⟨by omega, by omega⟩
  have HB : Hid (IntR b) := by obtain ⟨h1, h2⟩ := hb; exact ⟨by omega, by omega⟩
  obtain ⟨a1, a2⟩ := ha
  obtain ⟨b1, b2⟩ := hb
  obtain ⟨x, hx⟩ : ∃ x : Int, x = a % 4294967296 := ⟨_, rfl⟩
  obtain ⟨y, hy⟩ : ∃ y : Int, y = b % 4294967296 := ⟨_, rfl⟩
  have x1 : 0 ≤ x := by omega
  have x2 : x < 4294967296 := by omega
  have y1 : 0 ≤ y := by omega
  have y2 : y < 4294967296 := by omega
  obtain ⟨k, hk⟩ : ∃ k : Nat, k = (b % 32).toNat := ⟨_, rfl⟩
  have hk2 : b % 32 = (k : Int) := by omega
  have hk3 : k < 32 := by omega
  have hy2 : y.tmod 32 = (k : Int) := by rw [Int.tmod_eq_emod_of_nonneg y1]; omega
  have HX := Lib.hid hx
  have HY := Lib.hid hy
  have HK := Lib.hid hk
  have HK2 := Lib.hid hk2
  clear hx hy hk hk2
  rw [show spec32 3 a b = (wrap32 (a * b), 0) from rfl]
  go_enter Try.func23, Try.ntmps23
  go_wp2_with fail
  refine (bits32_any _ a HA.out).mono ?_
  rw [← HX.out]
  rintro e w' ⟨rfl, rfl⟩
  go_wp2_with fail
  refine (bits32_any _ b HB.out).mono ?_
  rw [← HY.out]
  rintro e w' ⟨rfl, rfl⟩
  go_wp2_with fail
  refine (back32_any _ (IntKind.u64.wrap (x * y)) (by rw [IntKind.wrap_u64]; exact ⟨Int.emod_nonneg _ (by decide), Int.emod_lt_of_pos _ (by decide)⟩)).mono ?_
  rintro e w' ⟨rfl, rfl⟩
  go_wp2
  go_ret2
  exact ⟨ret_tup (by rw [IntKind.wrap_u64, HX.out, HY.out]; exact wrap32_mul a b), rfl⟩
set_option maxRecDepth 100000 in
set_option maxHeartbeats 2000000 in
theorem reckon32_6 (w : World) (a b : Int) (ha : R32 a) (hb : R32 b) :
    Calls Try.prog 23 #[.int .i64 6, .int .i64 a, .int .i64 b, .int .i64 32] w fun e w' => e = .returned (.tuple #[.int .i64 (spec32 6 a b).1, .int .i64 (spec32 6 a b).2]) ∧ w = w' := by
  have HA : Hid (IntR a) := by obtain ⟨h1, h2⟩ := ha; exact ⟨by omega, by omega⟩
  have HB : Hid (IntR b) := by obtain ⟨h1, h2⟩ := hb; exact ⟨by omega, by omega⟩
  obtain ⟨a1, a2⟩ := ha
  obtain ⟨b1, b2⟩ := hb
  obtain ⟨x, hx⟩ : ∃ x : Int, x = a % 4294967296 := ⟨_, rfl⟩
  obtain ⟨y, hy⟩ : ∃ y : Int, y = b % 4294967296 := ⟨_, rfl⟩
  have x1 : 0 ≤ x := by omega
  have x2 : x < 4294967296 := by omega
  have y1 : 0 ≤ y := by omega
  have y2 : y < 4294967296 := by omega
  obtain ⟨k, hk⟩ : ∃ k : Nat, k = (b % 32).toNat := ⟨_, rfl⟩
  have hk2 : b % 32 = (k : Int) := by omega
  have hk3 : k < 32 := by omega
  have hy2 : y.tmod 32 = (k : Int) := by rw [Int.tmod_eq_emod_of_nonneg y1]; omega
  have HX := Lib.hid hx
  have HY := Lib.hid hy
  have HK := Lib.hid hk
  have HK2 := Lib.hid hk2
  clear hx hy hk hk2
  rw [show spec32 6 a b = (bits .and .i32 a b, 0) from rfl]
  go_enter Try.func23, Try.ntmps23
  go_wp2_with fail
  refine (bits32_any _ a HA.out).mono ?_
  rw [← HX.out]
  rintro e w' ⟨rfl, rfl⟩
  go_wp2_with fail
  refine (bits32_any _ b HB.out).mono ?_
  rw [← HY.out]
  rintro e w' ⟨rfl, rfl⟩
  go_wp2_with fail
  refine (back32_any _ (bits .and .u64 x y) (bits_u64 _ _ _)).mono ?_
  rintro e w' ⟨rfl, rfl⟩
  go_wp2
  go_ret2
  exact ⟨ret_tup (by rw [HX.out, HY.out]; exact wrap32_and a b), rfl⟩
set_option maxRecDepth 100000 in
set_option maxHeartbeats 2000000 in
theorem reckon32_7 (w : World) (a b : Int) (ha : R32 a) (hb : R32 b) :
    Calls Try.prog 23 #[.int .i64 7, .int .i64 a, .int .i64 b, .int .i64 32] w fun e w' => e = .returned (.tuple #[.int .i64 (spec32 7 a b).1, .int .i64 (spec32 7 a b).2]) ∧ w = w' := by
  have HA : Hid (IntR a) := by obtain ⟨h1, h2⟩ := ha; exact ⟨by omega, by omega⟩
  have HB : Hid (IntR b) := by obtain ⟨h1, h2⟩ := hb; exact ⟨by omega, by omega⟩
  obtain ⟨a1, a2⟩ := ha
  obtain ⟨b1, b2⟩ := hb
  obtain ⟨x, hx⟩ : ∃ x : Int, x = a % 4294967296 := ⟨_, rfl⟩
  obtain ⟨y, hy⟩ : ∃ y : Int, y = b % 4294967296 := ⟨_, rfl⟩
  have x1 : 0 ≤ x := by omega
  have x2 : x < 4294967296 := by omega
  have y1 : 0 ≤ y := by omega
  have y2 : y < 4294967296 := by omega
  obtain ⟨k, hk⟩ : ∃ k : Nat, k = (b % 32).toNat := ⟨_, rfl⟩
  have hk2 : b % 32 = (k : Int) := by omega
  have hk3 : k < 32 := by omega
  have hy2 : y.tmod 32 = (k : Int) := by rw [Int.tmod_eq_emod_of_nonneg y1]; omega
  have HX := Lib.hid hx
  have HY := Lib.hid hy
  have HK := Lib.hid hk
  have HK2 := Lib.hid hk2
  clear hx hy hk hk2
  rw [show spec32 7 a b = (bits .or .i32 a b, 0) from rfl]
  go_enter Try.func23, Try.ntmps23
  go_wp2_with fail
  refine (bits32_any _ a HA.out).mono ?_
  rw [← HX.out]
  rintro e w' ⟨rfl, rfl⟩
  go_wp2_with fail
  refine (bits32_any _ b HB.out).mono ?_
  rw [← HY.out]
  rintro e w' ⟨rfl, rfl⟩
  go_wp2_with fail
  refine (back32_any _ (bits .or .u64 x y) (bits_u64 _ _ _)).mono ?_
  rintro e w' ⟨rfl, rfl⟩
  go_wp2
  go_ret2
  exact ⟨ret_tup (by rw [HX.out, HY.out]; exact wrap32_or a b), rfl⟩
set_option maxRecDepth 100000 in
set_option maxHeartbeats 2000000 in
theorem reckon32_8 (w : World) (a b : Int) (ha : R32 a) (hb : R32 b) :
    Calls Try.prog 23 #[.int .i64 8, .int .i64 a, .int .i64 b, .int .i64 32] w fun e w' => e = .returned (.tuple #[.int .i64 (spec32 8 a b).1, .int .i64 (spec32 8 a b).2]) ∧ w = w' := by
  have HA : Hid (IntR a) := by obtain ⟨h1, h2⟩ := ha; exact ⟨by omega, by omega⟩
  have HB : Hid (IntR b) := by obtain ⟨h1, h2⟩ := hb; exact ⟨by omega, by omega⟩
  obtain ⟨a1, a2⟩ := ha
  obtain ⟨b1, b2⟩ := hb
  obtain ⟨x, hx⟩ : ∃ x : Int, x = a % 4294967296 := ⟨_, rfl⟩
  obtain ⟨y, hy⟩ : ∃ y : Int, y = b % 4294967296 := ⟨_, rfl⟩
  have x1 : 0 ≤ x := by omega
  have x2 : x < 4294967296 := by omega
  have y1 : 0 ≤ y := by omega
  have y2 : y < 4294967296 := by omega
  obtain ⟨k, hk⟩ : ∃ k : Nat, k = (b % 32).toNat := ⟨_, rfl⟩
  have hk2 : b % 32 = (k : Int) := by omega
  have hk3 : k < 32 := by omega
  have hy2 : y.tmod 32 = (k : Int) := by rw [Int.tmod_eq_emod_of_nonneg y1]; omega
  have HX := Lib.hid hx
  have HY := Lib.hid hy
  have HK := Lib.hid hk
  have HK2 := Lib.hid hk2
  clear hx hy hk hk2
  rw [show spec32 8 a b = (bits .xor .i32 a b, 0) from rfl]
  go_enter Try.func23, Try.ntmps23
  go_wp2_with fail
  refine (bits32_any _ a HA.out).mono ?_
  rw [← HX.out]
  rintro e w' ⟨rfl, rfl⟩
  go_wp2_with fail
  refine (bits32_any _ b HB.out).mono ?_
  rw [← HY.out]
  rintro e w' ⟨rfl, rfl⟩
  go_wp2_with fail
  refine (back32_any _ (bits .xor .u64 x y) (bits_u64 _ _ _)).mono ?_
  rintro e w' ⟨rfl, rfl⟩
  go_wp2
  go_ret2
  exact ⟨ret_tup (by rw [HX.out, HY.out]; exact wrap32_xor a b), rfl⟩
set_option linter.unusedVariables false
set_option maxRecDepth 100000 in
set_option maxHeartbeats 2000000 in
theorem reckon32_9 (w : World) (a b : Int) (ha : R32 a) (hb : R32 b) :
    Calls Try.prog 23 #[.int .i64 9, .int .i64 a, .int .i64 b, .int .i64 32] w fun e w' => e = .returned (.tuple #[.int .i64 (spec32 9 a b).1, .int .i64 (spec32 9 a b).2]) ∧ w = w' := by
  have HA : Hid (IntR a) := by obtain ⟨h1, h2⟩ := ha; exact ⟨by omega, by omega⟩
  have HB : Hid (IntR b) := by obtain ⟨h1, h2⟩ := hb; exact ⟨by omega, by omega⟩
  obtain ⟨a1, a2⟩ := ha
  obtain ⟨b1, b2⟩ := hb
  obtain ⟨x, hx⟩ : ∃ x : Int, x = a % 4294967296 := ⟨_, rfl⟩
  obtain ⟨y, hy⟩ : ∃ y : Int, y = b % 4294967296 := ⟨_, rfl⟩
  have x1 : 0 ≤ x := by omega
  have x2 : x < 4294967296 := by omega
  have y1 : 0 ≤ y := by omega
  have y2 : y < 4294967296 := by omega
  obtain ⟨k, hk⟩ : ∃ k : Nat, k = (b % 32).toNat := ⟨_, rfl⟩
  have hk2 : b % 32 = (k : Int) := by omega
  have hk3 : k < 32 := by omega
  have hy2 : y.tmod 32 = (k : Int) := by rw [Int.tmod_eq_emod_of_nonneg y1]; omega
  have HX := Lib.hid hx
  have HY := Lib.hid hy
  have HK := Lib.hid hk
  have HK2 := Lib.hid hk2
  clear hx hy hk hk2
  obtain ⟨p, hp⟩ : ∃ p : Nat, p = 2 ^ k := ⟨_, rfl⟩
  have hp1 : 1 ≤ p := by rw [hp]; exact Nat.one_le_two_pow
  have hp2 : p ≤ 2147483648 := by
    rw [hp]
    have : 2 ^ k ≤ 2 ^ 31 := Nat.pow_le_pow_right (by decide) (by omega)
    omega
  have HPW := Lib.hid (show (2 : Int) ^ k = (p : Int) by rw [hp, Int.natCast_pow]; rfl)
  have HPN := Lib.hid hp
  have hp0 : ((p : Int) == 0) = false := by simp; omega
  have hp3 : (p : Int) ≠ 0 := by omega
  clear hp
  rw [show spec32 9 a b = (wrap32 (a * 2 ^ (b % 32).toNat), 0) from rfl, ← HK.out, HPW.out]
  go_enter Try.func23, Try.ntmps23
  go_wp2_with fail
  refine (bits32_any _ a HA.out).mono ?_
  rw [← HX.out]
  rintro e w' ⟨rfl, rfl⟩
  go_wp2_with fail
  refine (bits32_any _ b HB.out).mono ?_
  rw [← HY.out]
  rintro e w' ⟨rfl, rfl⟩
  go_wp2_with fail
  refine (power_any _ k (by omega)).mono ?_
  rw [← HPN.out]
  rintro e w' ⟨rfl, rfl⟩
  go_wp2_with fail
  refine (back32_any _ (IntKind.u64.wrap (x * (p : Int))) (by rw [IntKind.wrap_u64]; exact ⟨Int.emod_nonneg _ (by decide), Int.emod_lt_of_pos _ (by decide)⟩)).mono ?_
  rintro e w' ⟨rfl, rfl⟩
  go_wp2
  go_ret2
  exact ⟨ret_tup (by rw [IntKind.wrap_u64, HX.out]; exact wrap32_mul2 a p), rfl⟩
set_option maxRecDepth 100000 in
set_option maxHeartbeats 2000000 in
theorem reckon32_11 (w : World) (a b : Int) (ha : R32 a) (hb : R32 b) :
    Calls Try.prog 23 #[.int .i64 11, .int .i64 a, .int .i64 b, .int .i64 32] w fun e w' => e = .returned (.tuple #[.int .i64 (spec32 11 a b).1, .int .i64 (spec32 11 a b).2]) ∧ w = w' := by
  have HA : Hid (IntR a) := by obtain ⟨h1, h2⟩ := ha; exact ⟨by omega, by omega⟩
  have HB : Hid (IntR b) := by obtain ⟨h1, h2⟩ := hb; exact ⟨by omega, by omega⟩
  obtain ⟨a1, a2⟩ := ha
  obtain ⟨b1, b2⟩ := hb
  obtain ⟨x, hx⟩ : ∃ x : Int, x = a % 4294967296 := ⟨_, rfl⟩
  obtain ⟨y, hy⟩ : ∃ y : Int, y = b % 4294967296 := ⟨_, rfl⟩
  have x1 : 0 ≤ x := by omega
  have x2 : x < 4294967296 := by omega
  have y1 : 0 ≤ y := by omega
  have y2 : y < 4294967296 := by omega
  obtain ⟨k, hk⟩ : ∃ k : Nat, k = (b % 32).toNat := ⟨_, rfl⟩
  have hk2 : b % 32 = (k : Int) := by omega
  have hk3 : k < 32 := by omega
  have hy2 : y.tmod 32 = (k : Int) := by rw [Int.tmod_eq_emod_of_nonneg y1]; omega
  have HX := Lib.hid hx
  have HY := Lib.hid hy
  have HK := Lib.hid hk
  have HK2 := Lib.hid hk2
  clear hx hy hk hk2
  obtain ⟨p, hp⟩ : ∃ p : Nat, p = 2 ^ k := ⟨_, rfl⟩
  have hp1 : 1 ≤ p := by rw [hp]; exact Nat.one_le_two_pow
  have hp2 : p ≤ 2147483648 := by
    rw [hp]
    have : 2 ^ k ≤ 2 ^ 31 := Nat.pow_le_pow_right (by decide) (by omega)
    omega
  have HPW := Lib.hid (show (2 : Int) ^ k = (p : Int) by rw [hp, Int.natCast_pow]; rfl)
  have HPN := Lib.hid hp
  have hp0 : ((p : Int) == 0) = false := by simp; omega
  have hp3 : (p : Int) ≠ 0 := by omega
  clear hp
  rw [show spec32 11 a b = (wrap32 (a % 4294967296 / 2 ^ (b % 32).toNat), 0) from rfl, ← HK.out, HPW.out, ← HX.out]
  obtain ⟨q, hq⟩ : ∃ q : Int, x.tdiv (p : Int) = q := ⟨_, rfl⟩
  have hq2 : q = x / (p : Int) := by rw [← hq, Int.tdiv_eq_ediv_of_nonneg x1]
  obtain ⟨q1, q2⟩ := ediv_le x p x1
  rw [← hq2] at q1 q2 ⊢
  clear hq2
  go_enter Try.func23, Try.ntmps23
  go_wp2_with fail
  refine (bits32_any _ a HA.out).mono ?_
  rw [← HX.out]
  rintro e w' ⟨rfl, rfl⟩
  go_wp2_with fail
  refine (bits32_any _ b HB.out).mono ?_
  rw [← HY.out]
  rintro e w' ⟨rfl, rfl⟩
  go_wp2_with fail
  refine (power_any _ k (by omega)).mono ?_
  rw [← HPN.out]
  rintro e w' ⟨rfl, rfl⟩
  go_wp2_with fail
  refine (back32_any _ (q) ⟨by omega, by omega⟩).mono ?_
  rintro e w' ⟨rfl, rfl⟩
  go_wp2
  go_ret2
  exact ⟨ret_tup (by rfl), rfl⟩
set_option maxRecDepth 100000 in
set_option maxHeartbeats 2000000 in
theorem reckon32_10 (w : World) (a b : Int) (ha : R32 a) (hb : R32 b) :
    Calls Try.prog 23 #[.int .i64 10, .int .i64 a, .int .i64 b, .int .i64 32] w fun e w' => e = .returned (.tuple #[.int .i64 (spec32 10 a b).1, .int .i64 (spec32 10 a b).2]) ∧ w = w' := by
  have HA : Hid (IntR a) := by obtain ⟨h1, h2⟩ := ha; exact ⟨by omega, by omega⟩
  have HB : Hid (IntR b) := by obtain ⟨h1, h2⟩ := hb; exact ⟨by omega, by omega⟩
  obtain ⟨a1, a2⟩ := ha
  obtain ⟨b1, b2⟩ := hb
  obtain ⟨x, hx⟩ : ∃ x : Int, x = a % 4294967296 := ⟨_, rfl⟩
  obtain ⟨y, hy⟩ : ∃ y : Int, y = b % 4294967296 := ⟨_, rfl⟩
  have x1 : 0 ≤ x := by omega
  have x2 : x < 4294967296 := by omega
  have y1 : 0 ≤ y := by omega
  have y2 : y < 4294967296 := by omega
  obtain ⟨k, hk⟩ : ∃ k : Nat, k = (b % 32).toNat := ⟨_, rfl⟩
  have hk2 : b % 32 = (k : Int) := by omega
  have hk3 : k < 32 := by omega
  have hy2 : y.tmod 32 = (k : Int) := by rw [Int.tmod_eq_emod_of_nonneg y1]; omega
  have HX := Lib.hid hx
  have HY := Lib.hid hy
  have HK := Lib.hid hk
  have HK2 := Lib.hid hk2
  clear hx hy hk hk2
  obtain ⟨p, hp⟩ : ∃ p : Nat, p = 2 ^ k := ⟨_, rfl⟩
  have hp1 : 1 ≤ p := by rw [hp]; exact Nat.one_le_two_pow
  have hp2 : p ≤ 2147483648 := by
    rw [hp]
    have : 2 ^ k ≤ 2 ^ 31 := Nat.pow_le_pow_right (by decide) (by omega)
    omega
  have HPW := Lib.hid (show (2 : Int) ^ k = (p : Int) by rw [hp, Int.natCast_pow]; rfl)
  have HPN := Lib.hid hp
  have hp0 : ((p : Int) == 0) = false := by simp; omega
  have hp3 : (p : Int) ≠ 0 := by omega
  clear hp
  rw [show spec32 10 a b = (a / 2 ^ (b % 32).toNat, 0) from rfl, ← HK.out, HPW.out]
  by_cases hneg : a < 0
  · obtain ⟨q, hq⟩ : ∃ q : Int, (-1 - a).tdiv (p : Int) = q := ⟨_, rfl⟩
    have hq2 : q = (-1 - a) / (p : Int) := by rw [← hq, Int.tdiv_eq_ediv_of_nonneg (by omega)]
    obtain ⟨q1, q2⟩ := ediv_le (-1 - a) p (by omega)
    rw [← hq2] at q1 q2
    have hf := floor_neg a p (by omega)
    rw [← hq2] at hf
    rw [← hf]
    clear hq2 hf
    go_enter Try.func23, Try.ntmps23
    go_wp2_with fail
    refine (bits32_any _ a HA.out).mono ?_
    rw [← HX.out]
    rintro e w' ⟨rfl, rfl⟩
    go_wp2_with fail
    refine (bits32_any _ b HB.out).mono ?_
    rw [← HY.out]
    rintro e w' ⟨rfl, rfl⟩
    go_wp2_with fail
    refine (int64Power_any _ k (by omega)).mono ?_
    rw [← HPN.out]
    rintro e w' ⟨rfl, rfl⟩
    go_wp2
    go_ret2
    exact ⟨rfl, rfl⟩
  · obtain ⟨q, hq⟩ : ∃ q : Int, a.tdiv (p : Int) = q := ⟨_, rfl⟩
    have hq2 : q = a / (p : Int) := by rw [← hq, Int.tdiv_eq_ediv_of_nonneg (by omega)]
    obtain ⟨q1, q2⟩ := ediv_le a p (by omega)
    rw [← hq2] at q1 q2 ⊢
    clear hq2
    go_enter Try.func23, Try.ntmps23
    go_wp2_with fail
    refine (bits32_any _ a HA.out).mono ?_
    rw [← HX.out]
    rintro e w' ⟨rfl, rfl⟩
    go_wp2_with fail
    refine (bits32_any _ b HB.out).mono ?_
    rw [← HY.out]
    rintro e w' ⟨rfl, rfl⟩
    go_wp2_with fail
    refine (int64Power_any _ k (by omega)).mono ?_
    rw [← HPN.out]
    rintro e w' ⟨rfl, rfl⟩
    go_wp2
    go_ret2
    exact ⟨rfl, rfl⟩
theorem tdiv32_in {a b : Int} (ha : R32 a) (h0 : ¬ b = 0) (h1 : ¬ b = -1) : R32 (a.tdiv b) := by
  obtain ⟨a1, a2⟩ := ha
  by_cases hb : b = 1
  · subst hb; rw [Int.tdiv_one]; exact ⟨a1, a2⟩
  · have h2 : (a.tdiv b).natAbs = a.natAbs / b.natAbs := Int.natAbs_tdiv a b
    have h3 : 2 ≤ b.natAbs := by omega
    have h4 : a.natAbs / b.natAbs ≤ a.natAbs / 2 := Nat.div_le_div_left h3 (by decide)
    exact ⟨by omega, by omega⟩
set_option maxRecDepth 100000 in
set_option maxHeartbeats 2000000 in
theorem reckon32_4 (w : World) (a b : Int) (ha : R32 a) (hb : R32 b) :
    Calls Try.prog 23 #[.int .i64 4, .int .i64 a, .int .i64 b, .int .i64 32] w fun e w' => e = .returned (.tuple #[.int .i64 (spec32 4 a b).1, .int .i64 (spec32 4 a b).2]) ∧ w = w' := by
  have HA : Hid (IntR a) := by obtain ⟨h1, h2⟩ := ha; exact ⟨by omega, by omega⟩
  have HB : Hid (IntR b) := by obtain ⟨h1, h2⟩ := hb; exact ⟨by omega, by omega⟩
  obtain ⟨a1, a2⟩ := ha
  obtain ⟨b1, b2⟩ := hb
  obtain ⟨x, hx⟩ : ∃ x : Int, x = a % 4294967296 := ⟨_, rfl⟩
  obtain ⟨y, hy⟩ : ∃ y : Int, y = b % 4294967296 := ⟨_, rfl⟩
  have x1 : 0 ≤ x := by omega
  have x2 : x < 4294967296 := by omega
  have y1 : 0 ≤ y := by omega
  have y2 : y < 4294967296 := by omega
  obtain ⟨k, hk⟩ : ∃ k : Nat, k = (b % 32).toNat := ⟨_, rfl⟩
  have hk2 : b % 32 = (k : Int) := by omega
  have hk3 : k < 32 := by omega
  have hy2 : y.tmod 32 = (k : Int) := by rw [Int.tmod_eq_emod_of_nonneg y1]; omega
  have HX := Lib.hid hx
  have HY := Lib.hid hy
  have HK := Lib.hid hk
  have HK2 := Lib.hid hk2
  clear hx hy hk hk2
  by_cases b0 : b = 0
  · rw [show spec32 4 a b = (0, 2) by simp [spec32, b0]]
    have e0 : (b == 0) = true := by simp [b0]
    clear b0
    go_enter Try.func23, Try.ntmps23
    go_wp2_with fail
    refine (bits32_any _ a HA.out).mono ?_
    rw [← HX.out]
    rintro e w' ⟨rfl, rfl⟩
    go_wp2_with fail
    refine (bits32_any _ b HB.out).mono ?_
    rw [← HY.out]
    rintro e w' ⟨rfl, rfl⟩
    go_wp2
    go_ret2
    exact ⟨rfl, rfl⟩
  have e0 := eq_no b0
  by_cases b3 : b = -1
  · have e1 : (b == -1) = true := by simp [b3]
    rw [show spec32 4 a b = (wrap32 (-a), 0) by simp [spec32, b0, b3]]
    clear b0 b3
    go_enter Try.func23, Try.ntmps23
    go_wp2_with fail
    refine (bits32_any _ a HA.out).mono ?_
    rw [← HX.out]
    rintro e w' ⟨rfl, rfl⟩
    go_wp2_with fail
    refine (bits32_any _ b HB.out).mono ?_
    rw [← HY.out]
    rintro e w' ⟨rfl, rfl⟩
    go_wp2_with fail
    refine (back32_any _ (IntKind.u64.wrap (-x)) (by rw [IntKind.wrap_u64]; exact ⟨Int.emod_nonneg _ (by decide), Int.emod_lt_of_pos _ (by decide)⟩)).mono ?_
    rintro e w' ⟨rfl, rfl⟩
    go_wp2
    go_ret2
    exact ⟨ret_tup (by rw [IntKind.wrap_u64, HX.out]; unfold wrap32; omega), rfl⟩
  have e1 := eq_no b3
  obtain ⟨q1, q2⟩ := tdiv32_in ⟨a1, a2⟩ b0 b3
  rw [show spec32 4 a b = (wrap32 (a.tdiv b), 0) by simp [spec32, b0]]
  obtain ⟨q, hq⟩ : ∃ q : Int, a.tdiv b = q := ⟨_, rfl⟩
  rw [hq] at q1 q2 ⊢
  rw [wrap32_id ⟨q1, q2⟩]
  go_enter Try.func23, Try.ntmps23
  go_wp2_with fail
  refine (bits32_any _ a HA.out).mono ?_
  rw [← HX.out]
  rintro e w' ⟨rfl, rfl⟩
  go_wp2_with fail
  refine (bits32_any _ b HB.out).mono ?_
  rw [← HY.out]
  rintro e w' ⟨rfl, rfl⟩
  go_wp2
  go_ret2
  exact ⟨rfl, rfl⟩
set_option maxRecDepth 100000 in
set_option maxHeartbeats 2000000 in
theorem reckon32_5 (w : World) (a b : Int) (ha : R32 a) (hb : R32 b) :
    Calls Try.prog 23 #[.int .i64 5, .int .i64 a, .int .i64 b, .int .i64 32] w fun e w' => e = .returned (.tuple #[.int .i64 (spec32 5 a b).1, .int .i64 (spec32 5 a b).2]) ∧ w = w' := by
  have HA : Hid (IntR a) := by obtain ⟨h1, h2⟩ := ha; exact ⟨by omega, by omega⟩
  have HB : Hid (IntR b) := by obtain ⟨h1, h2⟩ := hb; exact ⟨by omega, by omega⟩
  obtain ⟨a1, a2⟩ := ha
  obtain ⟨b1, b2⟩ := hb
  obtain ⟨x, hx⟩ : ∃ x : Int, x = a % 4294967296 := ⟨_, rfl⟩
  obtain ⟨y, hy⟩ : ∃ y : Int, y = b % 4294967296 := ⟨_, rfl⟩
  have x1 : 0 ≤ x := by omega
  have x2 : x < 4294967296 := by omega
  have y1 : 0 ≤ y := by omega
  have y2 : y < 4294967296 := by omega
  obtain ⟨k, hk⟩ : ∃ k : Nat, k = (b % 32).toNat := ⟨_, rfl⟩
  have hk2 : b % 32 = (k : Int) := by omega
  have hk3 : k < 32 := by omega
  have hy2 : y.tmod 32 = (k : Int) := by rw [Int.tmod_eq_emod_of_nonneg y1]; omega
  have HX := Lib.hid hx
  have HY := Lib.hid hy
  have HK := Lib.hid hk
  have HK2 := Lib.hid hk2
  clear hx hy hk hk2
  by_cases b0 : b = 0
  · rw [show spec32 5 a b = (0, 2) by simp [spec32, b0]]
    have e0 : (b == 0) = true := by simp [b0]
    clear b0
    go_enter Try.func23, Try.ntmps23
    go_wp2_with fail
    refine (bits32_any _ a HA.out).mono ?_
    rw [← HX.out]
    rintro e w' ⟨rfl, rfl⟩
    go_wp2_with fail
    refine (bits32_any _ b HB.out).mono ?_
    rw [← HY.out]
    rintro e w' ⟨rfl, rfl⟩
    go_wp2
    go_ret2
    exact ⟨rfl, rfl⟩
  have e0 := eq_no b0
  by_cases b3 : b = -1
  · have e1 : (b == -1) = true := by simp [b3]
    rw [show spec32 5 a b = (0, 0) by simp [spec32, b0, b3]]
    clear b0 b3
    go_enter Try.func23, Try.ntmps23
    go_wp2_with fail
    refine (bits32_any _ a HA.out).mono ?_
    rw [← HX.out]
    rintro e w' ⟨rfl, rfl⟩
    go_wp2_with fail
    refine (bits32_any _ b HB.out).mono ?_
    rw [← HY.out]
    rintro e w' ⟨rfl, rfl⟩
    go_wp2
    go_ret2
    exact ⟨rfl, rfl⟩
  have e1 := eq_no b3
  rw [show spec32 5 a b = (a.tmod b, 0) by simp [spec32, b0]]
  go_enter Try.func23, Try.ntmps23
  go_wp2_with fail
  refine (bits32_any _ a HA.out).mono ?_
  rw [← HX.out]
  rintro e w' ⟨rfl, rfl⟩
  go_wp2_with fail
  refine (bits32_any _ b HB.out).mono ?_
  rw [← HY.out]
  rintro e w' ⟨rfl, rfl⟩
  go_wp2
  go_ret2
  exact ⟨rfl, rfl⟩
set_option maxRecDepth 100000 in
set_option maxHeartbeats 2000000 in
theorem reckon32_no (w : World) (op a b : Int) (ha : R32 a) (hb : R32 b) (hop : IntR op) (c : ∀ k : Int, 1 ≤ k → k ≤ 11 → ¬ op = k) :
    Calls Try.prog 23 #[.int .i64 op, .int .i64 a, .int .i64 b, .int .i64 32] w fun e w' => e = .returned (.tuple #[.int .i64 (spec32 op a b).1, .int .i64 (spec32 op a b).2]) ∧ w = w' := by
  have HA : Hid (IntR a) := by obtain ⟨h1, h2⟩ := ha; exact ⟨by omega, by omega⟩
  have HB : Hid (IntR b) := by obtain ⟨h1, h2⟩ := hb; exact ⟨by omega, by omega⟩
  obtain ⟨a1, a2⟩ := ha
  obtain ⟨b1, b2⟩ := hb
  obtain ⟨x, hx⟩ : ∃ x : Int, x = a % 4294967296 := ⟨_, rfl⟩
  obtain ⟨y, hy⟩ : ∃ y : Int, y = b % 4294967296 := ⟨_, rfl⟩
  have x1 : 0 ≤ x := by omega
  have x2 : x < 4294967296 := by omega
  have y1 : 0 ≤ y := by omega
  have y2 : y < 4294967296 := by omega
  obtain ⟨k, hk⟩ : ∃ k : Nat, k = (b % 32).toNat := ⟨_, rfl⟩
  have hk2 : b % 32 = (k : Int) := by omega
  have hk3 : k < 32 := by omega
  have hy2 : y.tmod 32 = (k : Int) := by rw [Int.tmod_eq_emod_of_nonneg y1]; omega
  have HX := Lib.hid hx
  have HY := Lib.hid hy
  have HK := Lib.hid hk
  have HK2 := Lib.hid hk2
  clear hx hy hk hk2
  rw [spec32_other c]
  have c1 := eq_no (c 1 (by decide) (by decide))
  have c2 := eq_no (c 2 (by decide) (by decide))
  have c3 := eq_no (c 3 (by decide) (by decide))
  have c4 := eq_no (c 4 (by decide) (by decide))
  have c5 := eq_no (c 5 (by decide) (by decide))
  have c6 := eq_no (c 6 (by decide) (by decide))
  have c7 := eq_no (c 7 (by decide) (by decide))
  have c8 := eq_no (c 8 (by decide) (by decide))
  have c9 := eq_no (c 9 (by decide) (by decide))
  have c10 := eq_no (c 10 (by decide) (by decide))
  have c11 := eq_no (c 11 (by decide) (by decide))
  clear c
  go_enter Try.func23, Try.ntmps23
  go_wp2_with fail
  refine (bits32_any _ a HA.out).mono ?_
  rw [← HX.out]
  rintro e w' ⟨rfl, rfl⟩
  go_wp2_with fail
  refine (bits32_any _ b HB.out).mono ?_
  rw [← HY.out]
  rintro e w' ⟨rfl, rfl⟩
  go_wp2
  go_ret2
  exact ⟨rfl, rfl⟩
theorem wrap64_id {n : Int} (h : R64 n) : wrap64 n = n := by obtain ⟨h1, h2⟩ := h; unfold wrap64; omega
theorem wrap64_mul (a b : Int) : wrap64 ((a % 18446744073709551616 * (b % 18446744073709551616)) % 18446744073709551616) = wrap64 (a * b) := by
  have h := Int.mul_emod a b 18446744073709551616
  unfold wrap64
  generalize a % 18446744073709551616 * (b % 18446744073709551616) = t at *
  generalize a * b = u at *
  omega
theorem wrap64_mul2 (a p : Int) : wrap64 ((a % 18446744073709551616 * p) % 18446744073709551616) = wrap64 (a * p) := by
  have h1 : (a % 18446744073709551616 * p) % 18446744073709551616 = (a * p) % 18446744073709551616 := by rw [Int.mul_emod, Int.emod_emod, ← Int.mul_emod]
  unfold wrap64
  generalize a % 18446744073709551616 * p = t at *
  generalize a * p = u at *
  omega
theorem wrap64_and (a b : Int) : wrap64 (bits .and .u64 (a % 18446744073709551616) (b % 18446744073709551616)) = bits .and .i64 a b := by
  rw [u64_and _ _ (by omega) (by omega) (by omega) (by omega)]
  unfold bits
  simp only []
  show wrap64 (((a % 18446744073709551616).toNat &&& (b % 18446744073709551616).toNat : Nat) : Int) = IntKind.i64.wrap ((BitVec.ofInt 64 a &&& BitVec.ofInt 64 b).toNat)
  unfold wrap64
  rw [BitVec.toNat_and, BitVec.toNat_ofInt, BitVec.toNat_ofInt, IntKind.wrap_i64, show ((2 ^ 64 : Nat) : Int) = 18446744073709551616 from rfl]
theorem wrap64_or (a b : Int) : wrap64 (bits .or .u64 (a % 18446744073709551616) (b % 18446744073709551616)) = bits .or .i64 a b := by
  rw [u64_or _ _ (by omega) (by omega) (by omega) (by omega)]
  unfold bits
  simp only []
  show wrap64 (((a % 18446744073709551616).toNat ||| (b % 18446744073709551616).toNat : Nat) : Int) = IntKind.i64.wrap ((BitVec.ofInt 64 a ||| BitVec.ofInt 64 b).toNat)
  unfold wrap64
  rw [BitVec.toNat_or, BitVec.toNat_ofInt, BitVec.toNat_ofInt, IntKind.wrap_i64, show ((2 ^ 64 : Nat) : Int) = 18446744073709551616 from rfl]
theorem wrap64_xor (a b : Int) : wrap64 (bits .xor .u64 (a % 18446744073709551616) (b % 18446744073709551616)) = bits .xor .i64 a b := by
  rw [u64_xor _ _ (by omega) (by omega) (by omega) (by omega)]
  unfold bits
  simp only []
  show wrap64 (((a % 18446744073709551616).toNat ^^^ (b % 18446744073709551616).toNat : Nat) : Int) = IntKind.i64.wrap ((BitVec.ofInt 64 a ^^^ BitVec.ofInt 64 b).toNat)
  unfold wrap64
  rw [BitVec.toNat_xor, BitVec.toNat_ofInt, BitVec.toNat_ofInt, IntKind.wrap_i64, show ((2 ^ 64 : Nat) : Int) = 18446744073709551616 from rfl]
theorem spec64_other {op a b : Int} (c : ∀ k : Int, 1 ≤ k → k ≤ 11 → ¬ op = k) : spec64 op a b = (0, 1) := by
  unfold spec64
  simp only [c 1 (by decide) (by decide), c 2 (by decide) (by decide), c 3 (by decide) (by decide), c 4 (by decide) (by decide), c 5 (by decide) (by decide), c 6 (by decide) (by decide), c 7 (by decide) (by decide), c 8 (by decide) (by decide), c 9 (by decide) (by decide), c 10 (by decide) (by decide), c 11 (by decide) (by decide), if_false]
set_option maxRecDepth 100000 in
set_option maxHeartbeats 2000000 in
theorem reckon64_1 (w : World) (a b : Int) (ha : R64 a) (hb : R64 b) :
    Calls Try.prog 23 #[.int .i64 1, .int .i64 a, .int .i64 b, .int .i64 64] w fun e w' => e = .returned (.tuple #[.int .i64 (spec64 1 a b).1, .int .i64 (spec64 1 a b).2]) ∧ w = w' := by
  have HA : Hid (IntR a) := by obtain ⟨h1, h2⟩ := ha; exact ⟨by omega, by omega⟩
  have HB : Hid (IntR b) := by obtain ⟨h1, h2⟩ := hb; exact ⟨by omega, by omega⟩
  obtain ⟨a1, a2⟩ := ha
  obtain ⟨b1, b2⟩ := hb
  obtain ⟨x, hx⟩ : ∃ x : Int, x = a % 18446744073709551616 := ⟨_, rfl⟩
  obtain ⟨y, hy⟩ : ∃ y : Int, y = b % 18446744073709551616 := ⟨_, rfl⟩
  have x1 : 0 ≤ x := by omega
  have x2 : x < 18446744073709551616 := by omega
  have y1 : 0 ≤ y := by omega
  have y2 : y < 18446744073709551616 := by omega
  obtain ⟨k, hk⟩ : ∃ k : Nat, k = (b % 64).toNat := ⟨_, rfl⟩
  have hk2 : b % 64 = (k : Int) := by omega
  have hk3 : k < 64 := by omega
  have hy2 : y.tmod 64 = (k : Int) := by rw [Int.tmod_eq_emod_of_nonneg y1]; omega
  have HX := Lib.hid hx
  have HY := Lib.hid hy
  have HK := Lib.hid hk
  have HK2 := Lib.hid hk2
  clear hx hy hk hk2
  rw [show spec64 1 a b = (wrap64 (a + b), 0) from rfl]
  go_enter Try.func23, Try.ntmps23
  go_wp2_with fail
  refine (bits64_any _ a HA.out).mono ?_
  rw [← HX.out]
  rintro e w' ⟨rfl, rfl⟩
  go_wp2_with fail
  refine (bits64_any _ b HB.out).mono ?_
  rw [← HY.out]
  rintro e w' ⟨rfl, rfl⟩
  go_wp2_with fail
  refine (back64_any _ (IntKind.u64.wrap (x + y)) (by rw [IntKind.wrap_u64]; exact ⟨Int.emod_nonneg _ (by decide), Int.emod_lt_of_pos _ (by decide)⟩)).mono ?_
  rintro e w' ⟨rfl, rfl⟩
  go_wp2
  go_ret2
  exact ⟨ret_tup (by (try rw [IntKind.wrap_u64]); rw [HX.out, HY.out]; unfold wrap64; omega), rfl⟩
set_option maxRecDepth 100000 in
set_option maxHeartbeats 2000000 in
theorem reckon64_2 (w : World) (a b : Int) (ha : R64 a) (hb : R64 b) :
    Calls Try.prog 23 #[.int .i64 2, .int .i64 a, .int .i64 b, .int .i64 64] w fun e w' => e = .returned (.tuple #[.int .i64 (spec64 2 a b).1, .int .i64 (spec64 2 a b).2]) ∧ w = w' := by
  have HA : Hid (IntR a) := by obtain ⟨h1, h2⟩ := ha; exact ⟨by omega, by omega⟩
  have HB : Hid (IntR b) := by obtain ⟨h1, h2⟩ := hb; exact ⟨by omega, by omega⟩
  obtain ⟨a1, a2⟩ := ha
  obtain ⟨b1, b2⟩ := hb
  obtain ⟨x, hx⟩ : ∃ x : Int, x = a % 18446744073709551616 := ⟨_, rfl⟩
  obtain ⟨y, hy⟩ : ∃ y : Int, y = b % 18446744073709551616 := ⟨_, rfl⟩
  have x1 : 0 ≤ x := by omega
  have x2 : x < 18446744073709551616 := by omega
  have y1 : 0 ≤ y := by omega
  have y2 : y < 18446744073709551616 := by omega
  obtain ⟨k, hk⟩ : ∃ k : Nat, k = (b % 64).toNat := ⟨_, rfl⟩
  have hk2 : b % 64 = (k : Int) := by omega
  have hk3 : k < 64 := by omega
  have hy2 : y.tmod 64 = (k : Int) := by rw [Int.tmod_eq_emod_of_nonneg y1]; omega
  have HX := Lib.hid hx
  have HY := Lib.hid hy
  have HK := Lib.hid hk
  have HK2 := Lib.hid hk2
  clear hx hy hk hk2
  rw [show spec64 2 a b = (wrap64 (a - b), 0) from rfl]
  go_enter Try.func23, Try.ntmps23
  go_wp2_with fail
  refine (bits64_any _ a HA.out).mono ?_
  rw [← HX.out]
  rintro e w' ⟨rfl, rfl⟩
  go_wp2_with fail
  refine (bits64_any _ b HB.out).mono ?_
  rw [← HY.out]
  rintro e w' ⟨rfl, rfl⟩
  go_wp2_with fail
  refine (back64_any _ (IntKind.u64.wrap (x - y)) (by rw [IntKind.wrap_u64]; exact ⟨Int.emod_nonneg _ (by decide), Int.emod_lt_of_pos _ (by decide)⟩)).mono ?_
  rintro e w' ⟨rfl, rfl⟩
  go_wp2
  go_ret2
  exact ⟨ret_tup (by rw [IntKind.wrap_u64, HX.out, HY.out]; unfold wrap64; omega), rfl⟩
set_option maxRecDepth 100000 in
set_option maxHeartbeats 2000000 in
theorem reckon64_3 (w : World) (a b : Int) (ha : R64 a) (hb : R64 b) :
    Calls Try.prog 23 #[.int .i64 3, .int .i64 a, .int .i64 b, .int .i64 64] w fun e w' => e = .returned (.tuple #[.int .i64 (spec64 3 a b).1, .int .i64 (spec64 3 a b).2]) ∧ w = w' := by
  have HA : Hid (IntR a) := by obtain ⟨h1, h2⟩ := ha; exact ⟨by omega, by omega⟩
  have HB : Hid (IntR b) := by obtain ⟨h1, h2⟩ := hb; exact ⟨by omega, by omega⟩
  obtain ⟨a1, a2⟩ := ha
  obtain ⟨b1, b2⟩ := hb
  obtain ⟨x, hx⟩ : ∃ x : Int, x = a % 18446744073709551616 := ⟨_, rfl⟩
  obtain ⟨y, hy⟩ : ∃ y : Int, y = b % 18446744073709551616 := ⟨_, rfl⟩
  have x1 : 0 ≤ x := by omega
  have x2 : x < 18446744073709551616 := by omega
  have y1 : 0 ≤ y := by omega
  have y2 : y < 18446744073709551616 := by omega
  obtain ⟨k, hk⟩ : ∃ k : Nat, k = (b % 64).toNat := ⟨_, rfl⟩
  have hk2 : b % 64 = (k : Int) := by omega
  have hk3 : k < 64 := by omega
  have hy2 : y.tmod 64 = (k : Int) := by rw [Int.tmod_eq_emod_of_nonneg y1]; omega
  have HX := Lib.hid hx
  have HY := Lib.hid hy
  have HK := Lib.hid hk
  have HK2 := Lib.hid hk2
  clear hx hy hk hk2
  rw [show spec64 3 a b = (wrap64 (a * b), 0) from rfl]
  go_enter Try.func23, Try.ntmps23
  go_wp2_with fail
  refine (bits64_any _ a HA.out).mono ?_
  rw [← HX.out]
  rintro e w' ⟨rfl, rfl⟩
  go_wp2_with fail
  refine (bits64_any _ b HB.out).mono ?_
  rw [← HY.out]
  rintro e w' ⟨rfl, rfl⟩
  go_wp2_with fail
  refine (back64_any _ (IntKind.u64.wrap (x * y)) (by rw [IntKind.wrap_u64]; exact ⟨Int.emod_nonneg _ (by decide), Int.emod_lt_of_pos _ (by decide)⟩)).mono ?_
  rintro e w' ⟨rfl, rfl⟩
  go_wp2
  go_ret2
  exact ⟨ret_tup (by rw [IntKind.wrap_u64, HX.out, HY.out]; exact wrap64_mul a b), rfl⟩
set_option maxRecDepth 100000 in
set_option maxHeartbeats 2000000 in
theorem reckon64_6 (w : World) (a b : Int) (ha : R64 a) (hb : R64 b) :
    Calls Try.prog 23 #[.int .i64 6, .int .i64 a, .int .i64 b, .int .i64 64] w fun e w' => e = .returned (.tuple #[.int .i64 (spec64 6 a b).1, .int .i64 (spec64 6 a b).2]) ∧ w = w' := by
  have HA : Hid (IntR a) := by obtain ⟨h1, h2⟩ := ha; exact ⟨by omega, by omega⟩
  have HB : Hid (IntR b) := by obtain ⟨h1, h2⟩ := hb; exact ⟨by omega, by omega⟩
  obtain ⟨a1, a2⟩ := ha
  obtain ⟨b1, b2⟩ := hb
  obtain ⟨x, hx⟩ : ∃ x : Int, x = a % 18446744073709551616 := ⟨_, rfl⟩
  obtain ⟨y, hy⟩ : ∃ y : Int, y = b % 18446744073709551616 := ⟨_, rfl⟩
  have x1 : 0 ≤ x := by omega
  have x2 : x < 18446744073709551616 := by omega
  have y1 : 0 ≤ y := by omega
  have y2 : y < 18446744073709551616 := by omega
  obtain ⟨k, hk⟩ : ∃ k : Nat, k = (b % 64).toNat := ⟨_, rfl⟩
  have hk2 : b % 64 = (k : Int) := by omega
  have hk3 : k < 64 := by omega
  have hy2 : y.tmod 64 = (k : Int) := by rw [Int.tmod_eq_emod_of_nonneg y1]; omega
  have HX := Lib.hid hx
  have HY := Lib.hid hy
  have HK := Lib.hid hk
  have HK2 := Lib.hid hk2
  clear hx hy hk hk2
  rw [show spec64 6 a b = (bits .and .i64 a b, 0) from rfl]
  go_enter Try.func23, Try.ntmps23
  go_wp2_with fail
  refine (bits64_any _ a HA.out).mono ?_
  rw [← HX.out]
  rintro e w' ⟨rfl, rfl⟩
  go_wp2_with fail
  refine (bits64_any _ b HB.out).mono ?_
  rw [← HY.out]
  rintro e w' ⟨rfl, rfl⟩
  go_wp2_with fail
  refine (back64_any _ (bits .and .u64 x y) (bits_u64 _ _ _)).mono ?_
  rintro e w' ⟨rfl, rfl⟩
  go_wp2
  go_ret2
  exact ⟨ret_tup (by rw [HX.out, HY.out]; exact wrap64_and a b), rfl⟩
set_option maxRecDepth 100000 in
set_option maxHeartbeats 2000000 in
theorem reckon64_7 (w : World) (a b : Int) (ha : R64 a) (hb : R64 b) :
    Calls Try.prog 23 #[.int .i64 7, .int .i64 a, .int .i64 b, .int .i64 64] w fun e w' => e = .returned (.tuple #[.int .i64 (spec64 7 a b).1, .int .i64 (spec64 7 a b).2]) ∧ w = w' := by
  have HA : Hid (IntR a) := by obtain ⟨h1, h2⟩ := ha; exact ⟨by omega, by omega⟩
  have HB : Hid (IntR b) := by obtain ⟨h1, h2⟩ := hb; exact ⟨by omega, by omega⟩
  obtain ⟨a1, a2⟩ := ha
  obtain ⟨b1, b2⟩ := hb
  obtain ⟨x, hx⟩ : ∃ x : Int, x = a % 18446744073709551616 := ⟨_, rfl⟩
  obtain ⟨y, hy⟩ : ∃ y : Int, y = b % 18446744073709551616 := ⟨_, rfl⟩
  have x1 : 0 ≤ x := by omega
  have x2 : x < 18446744073709551616 := by omega
  have y1 : 0 ≤ y := by omega
  have y2 : y < 18446744073709551616 := by omega
  obtain ⟨k, hk⟩ : ∃ k : Nat, k = (b % 64).toNat := ⟨_, rfl⟩
  have hk2 : b % 64 = (k : Int) := by omega
  have hk3 : k < 64 := by omega
  have hy2 : y.tmod 64 = (k : Int) := by rw [Int.tmod_eq_emod_of_nonneg y1]; omega
  have HX := Lib.hid hx
  have HY := Lib.hid hy
  have HK := Lib.hid hk
  have HK2 := Lib.hid hk2
  clear hx hy hk hk2
  rw [show spec64 7 a b = (bits .or .i64 a b, 0) from rfl]
  go_enter Try.func23, Try.ntmps23
  go_wp2_with fail
  refine (bits64_any _ a HA.out).mono ?_
  rw [← HX.out]
  rintro e w' ⟨rfl, rfl⟩
  go_wp2_with fail
  refine (bits64_any _ b HB.out).mono ?_
  rw [← HY.out]
  rintro e w' ⟨rfl, rfl⟩
  go_wp2_with fail
  refine (back64_any _ (bits .or .u64 x y) (bits_u64 _ _ _)).mono ?_
  rintro e w' ⟨rfl, rfl⟩
  go_wp2
  go_ret2
  exact ⟨ret_tup (by rw [HX.out, HY.out]; exact wrap64_or a b), rfl⟩
set_option maxRecDepth 100000 in
set_option maxHeartbeats 2000000 in
theorem reckon64_8 (w : World) (a b : Int) (ha : R64 a) (hb : R64 b) :
    Calls Try.prog 23 #[.int .i64 8, .int .i64 a, .int .i64 b, .int .i64 64] w fun e w' => e = .returned (.tuple #[.int .i64 (spec64 8 a b).1, .int .i64 (spec64 8 a b).2]) ∧ w = w' := by
  have HA : Hid (IntR a) := by obtain ⟨h1, h2⟩ := ha; exact ⟨by omega, by omega⟩
  have HB : Hid (IntR b) := by obtain ⟨h1, h2⟩ := hb; exact ⟨by omega, by omega⟩
  obtain ⟨a1, a2⟩ := ha
  obtain ⟨b1, b2⟩ := hb
  obtain ⟨x, hx⟩ : ∃ x : Int, x = a % 18446744073709551616 := ⟨_, rfl⟩
  obtain ⟨y, hy⟩ : ∃ y : Int, y = b % 18446744073709551616 := ⟨_, rfl⟩
  have x1 : 0 ≤ x := by omega
  have x2 : x < 18446744073709551616 := by omega
  have y1 : 0 ≤ y := by omega
  have y2 : y < 18446744073709551616 := by omega
  obtain ⟨k, hk⟩ : ∃ k : Nat, k = (b % 64).toNat := ⟨_, rfl⟩
  have hk2 : b % 64 = (k : Int) := by omega
  have hk3 : k < 64 := by omega
  have hy2 : y.tmod 64 = (k : Int) := by rw [Int.tmod_eq_emod_of_nonneg y1]; omega
  have HX := Lib.hid hx
  have HY := Lib.hid hy
  have HK := Lib.hid hk
  have HK2 := Lib.hid hk2
  clear hx hy hk hk2
  rw [show spec64 8 a b = (bits .xor .i64 a b, 0) from rfl]
  go_enter Try.func23, Try.ntmps23
  go_wp2_with fail
  refine (bits64_any _ a HA.out).mono ?_
  rw [← HX.out]
  rintro e w' ⟨rfl, rfl⟩
  go_wp2_with fail
  refine (bits64_any _ b HB.out).mono ?_
  rw [← HY.out]
  rintro e w' ⟨rfl, rfl⟩
  go_wp2_with fail
  refine (back64_any _ (bits .xor .u64 x y) (bits_u64 _ _ _)).mono ?_
  rintro e w' ⟨rfl, rfl⟩
  go_wp2
  go_ret2
  exact ⟨ret_tup (by rw [HX.out, HY.out]; exact wrap64_xor a b), rfl⟩
set_option linter.unusedVariables false
set_option maxRecDepth 100000 in
set_option maxHeartbeats 2000000 in
theorem reckon64_9 (w : World) (a b : Int) (ha : R64 a) (hb : R64 b) :
    Calls Try.prog 23 #[.int .i64 9, .int .i64 a, .int .i64 b, .int .i64 64] w fun e w' => e = .returned (.tuple #[.int .i64 (spec64 9 a b).1, .int .i64 (spec64 9 a b).2]) ∧ w = w' := by
  have HA : Hid (IntR a) := by obtain ⟨h1, h2⟩ := ha; exact ⟨by omega, by omega⟩
  have HB : Hid (IntR b) := by obtain ⟨h1, h2⟩ := hb; exact ⟨by omega, by omega⟩
  obtain ⟨a1, a2⟩ := ha
  obtain ⟨b1, b2⟩ := hb
  obtain ⟨x, hx⟩ : ∃ x : Int, x = a % 18446744073709551616 := ⟨_, rfl⟩
  obtain ⟨y, hy⟩ : ∃ y : Int, y = b % 18446744073709551616 := ⟨_, rfl⟩
  have x1 : 0 ≤ x := by omega
  have x2 : x < 18446744073709551616 := by omega
  have y1 : 0 ≤ y := by omega
  have y2 : y < 18446744073709551616 := by omega
  obtain ⟨k, hk⟩ : ∃ k : Nat, k = (b % 64).toNat := ⟨_, rfl⟩
  have hk2 : b % 64 = (k : Int) := by omega
  have hk3 : k < 64 := by omega
  have hy2 : y.tmod 64 = (k : Int) := by rw [Int.tmod_eq_emod_of_nonneg y1]; omega
  have HX := Lib.hid hx
  have HY := Lib.hid hy
  have HK := Lib.hid hk
  have HK2 := Lib.hid hk2
  clear hx hy hk hk2
  obtain ⟨p, hp⟩ : ∃ p : Nat, p = 2 ^ k := ⟨_, rfl⟩
  have hp1 : 1 ≤ p := by rw [hp]; exact Nat.one_le_two_pow
  have hp2 : p ≤ 9223372036854775808 := by
    rw [hp]
    have : 2 ^ k ≤ 2 ^ 63 := Nat.pow_le_pow_right (by decide) (by omega)
    omega
  have HPW := Lib.hid (show (2 : Int) ^ k = (p : Int) by rw [hp, Int.natCast_pow]; rfl)
  have HPN := Lib.hid hp
  have hp0 : ((p : Int) == 0) = false := by simp; omega
  have hp3 : (p : Int) ≠ 0 := by omega
  clear hp
  rw [show spec64 9 a b = (wrap64 (a * 2 ^ (b % 64).toNat), 0) from rfl, ← HK.out, HPW.out]
  go_enter Try.func23, Try.ntmps23
  go_wp2_with fail
  refine (bits64_any _ a HA.out).mono ?_
  rw [← HX.out]
  rintro e w' ⟨rfl, rfl⟩
  go_wp2_with fail
  refine (bits64_any _ b HB.out).mono ?_
  rw [← HY.out]
  rintro e w' ⟨rfl, rfl⟩
  go_wp2_with fail
  refine (power_any _ k (by omega)).mono ?_
  rw [← HPN.out]
  rintro e w' ⟨rfl, rfl⟩
  go_wp2_with fail
  refine (back64_any _ (IntKind.u64.wrap (x * (p : Int))) (by rw [IntKind.wrap_u64]; exact ⟨Int.emod_nonneg _ (by decide), Int.emod_lt_of_pos _ (by decide)⟩)).mono ?_
  rintro e w' ⟨rfl, rfl⟩
  go_wp2
  go_ret2
  exact ⟨ret_tup (by rw [IntKind.wrap_u64, HX.out]; exact wrap64_mul2 a p), rfl⟩
set_option maxRecDepth 100000 in
set_option maxHeartbeats 2000000 in
theorem reckon64_11 (w : World) (a b : Int) (ha : R64 a) (hb : R64 b) :
    Calls Try.prog 23 #[.int .i64 11, .int .i64 a, .int .i64 b, .int .i64 64] w fun e w' => e = .returned (.tuple #[.int .i64 (spec64 11 a b).1, .int .i64 (spec64 11 a b).2]) ∧ w = w' := by
  have HA : Hid (IntR a) := by obtain ⟨h1, h2⟩ := ha; exact ⟨by omega, by omega⟩
  have HB : Hid (IntR b) := by obtain ⟨h1, h2⟩ := hb; exact ⟨by omega, by omega⟩
  obtain ⟨a1, a2⟩ := ha
  obtain ⟨b1, b2⟩ := hb
  obtain ⟨x, hx⟩ : ∃ x : Int, x = a % 18446744073709551616 := ⟨_, rfl⟩
  obtain ⟨y, hy⟩ : ∃ y : Int, y = b % 18446744073709551616 := ⟨_, rfl⟩
  have x1 : 0 ≤ x := by omega
  have x2 : x < 18446744073709551616 := by omega
  have y1 : 0 ≤ y := by omega
  have y2 : y < 18446744073709551616 := by omega
  obtain ⟨k, hk⟩ : ∃ k : Nat, k = (b % 64).toNat := ⟨_, rfl⟩
  have hk2 : b % 64 = (k : Int) := by omega
  have hk3 : k < 64 := by omega
  have hy2 : y.tmod 64 = (k : Int) := by rw [Int.tmod_eq_emod_of_nonneg y1]; omega
  have HX := Lib.hid hx
  have HY := Lib.hid hy
  have HK := Lib.hid hk
  have HK2 := Lib.hid hk2
  clear hx hy hk hk2
  obtain ⟨p, hp⟩ : ∃ p : Nat, p = 2 ^ k := ⟨_, rfl⟩
  have hp1 : 1 ≤ p := by rw [hp]; exact Nat.one_le_two_pow
  have hp2 : p ≤ 9223372036854775808 := by
    rw [hp]
    have : 2 ^ k ≤ 2 ^ 63 := Nat.pow_le_pow_right (by decide) (by omega)
    omega
  have HPW := Lib.hid (show (2 : Int) ^ k = (p : Int) by rw [hp, Int.natCast_pow]; rfl)
  have HPN := Lib.hid hp
  have hp0 : ((p : Int) == 0) = false := by simp; omega
  have hp3 : (p : Int) ≠ 0 := by omega
  clear hp
  rw [show spec64 11 a b = (wrap64 (a % 18446744073709551616 / 2 ^ (b % 64).toNat), 0) from rfl, ← HK.out, HPW.out, ← HX.out]
  obtain ⟨q, hq⟩ : ∃ q : Int, x.tdiv (p : Int) = q := ⟨_, rfl⟩
  have hq2 : q = x / (p : Int) := by rw [← hq, Int.tdiv_eq_ediv_of_nonneg x1]
  obtain ⟨q1, q2⟩ := ediv_le x p x1
  rw [← hq2] at q1 q2 ⊢
  clear hq2
  go_enter Try.func23, Try.ntmps23
  go_wp2_with fail
  refine (bits64_any _ a HA.out).mono ?_
  rw [← HX.out]
  rintro e w' ⟨rfl, rfl⟩
  go_wp2_with fail
  refine (bits64_any _ b HB.out).mono ?_
  rw [← HY.out]
  rintro e w' ⟨rfl, rfl⟩
  go_wp2_with fail
  refine (power_any _ k (by omega)).mono ?_
  rw [← HPN.out]
  rintro e w' ⟨rfl, rfl⟩
  go_wp2_with fail
  refine (back64_any _ (q) ⟨by omega, by omega⟩).mono ?_
  rintro e w' ⟨rfl, rfl⟩
  go_wp2
  go_ret2
  exact ⟨ret_tup (by rfl), rfl⟩
set_option maxRecDepth 100000 in
set_option maxHeartbeats 2000000 in
theorem reckon64_10 (w : World) (a b : Int) (ha : R64 a) (hb : R64 b) (h62 : b % 64 ≤ 62) :
    Calls Try.prog 23 #[.int .i64 10, .int .i64 a, .int .i64 b, .int .i64 64] w fun e w' => e = .returned (.tuple #[.int .i64 (spec64 10 a b).1, .int .i64 (spec64 10 a b).2]) ∧ w = w' := by
  have HA : Hid (IntR a) := by obtain ⟨h1, h2⟩ := ha; exact ⟨by omega, by omega⟩
  have HB : Hid (IntR b) := by obtain ⟨h1, h2⟩ := hb; exact ⟨by omega, by omega⟩
  obtain ⟨a1, a2⟩ := ha
  obtain ⟨b1, b2⟩ := hb
  obtain ⟨x, hx⟩ : ∃ x : Int, x = a % 18446744073709551616 := ⟨_, rfl⟩
  obtain ⟨y, hy⟩ : ∃ y : Int, y = b % 18446744073709551616 := ⟨_, rfl⟩
  have x1 : 0 ≤ x := by omega
  have x2 : x < 18446744073709551616 := by omega
  have y1 : 0 ≤ y := by omega
  have y2 : y < 18446744073709551616 := by omega
  obtain ⟨k, hk⟩ : ∃ k : Nat, k = (b % 64).toNat := ⟨_, rfl⟩
  have hk2 : b % 64 = (k : Int) := by omega
  have hk3 : k < 64 := by omega
  have hy2 : y.tmod 64 = (k : Int) := by rw [Int.tmod_eq_emod_of_nonneg y1]; omega
  have HX := Lib.hid hx
  have HY := Lib.hid hy
  have HK := Lib.hid hk
  have HK2 := Lib.hid hk2
  clear hx hy hk hk2
  have hk62 : k ≤ 62 := by rw [HK2.out] at h62; omega
  clear h62
  obtain ⟨p, hp⟩ : ∃ p : Nat, p = 2 ^ k := ⟨_, rfl⟩
  have hp1 : 1 ≤ p := by rw [hp]; exact Nat.one_le_two_pow
  have hp2 : p ≤ 4611686018427387904 := by
    rw [hp]
    have : 2 ^ k ≤ 2 ^ 62 := Nat.pow_le_pow_right (by decide) (by omega)
    omega
  have HPW := Lib.hid (show (2 : Int) ^ k = (p : Int) by rw [hp, Int.natCast_pow]; rfl)
  have HPN := Lib.hid hp
  have hp0 : ((p : Int) == 0) = false := by simp; omega
  have hp3 : (p : Int) ≠ 0 := by omega
  clear hp
  rw [show spec64 10 a b = (a / 2 ^ (b % 64).toNat, 0) from rfl, ← HK.out, HPW.out]
  by_cases hneg : a < 0
  · obtain ⟨q, hq⟩ : ∃ q : Int, (-1 - a).tdiv (p : Int) = q := ⟨_, rfl⟩
    have hq2 : q = (-1 - a) / (p : Int) := by rw [← hq, Int.tdiv_eq_ediv_of_nonneg (by omega)]
    obtain ⟨q1, q2⟩ := ediv_le (-1 - a) p (by omega)
    rw [← hq2] at q1 q2
    have hf := floor_neg a p (by omega)
    rw [← hq2] at hf
    rw [← hf]
    clear hq2 hf
    go_enter Try.func23, Try.ntmps23
    go_wp2_with fail
    refine (bits64_any _ a HA.out).mono ?_
    rw [← HX.out]
    rintro e w' ⟨rfl, rfl⟩
    go_wp2_with fail
    refine (bits64_any _ b HB.out).mono ?_
    rw [← HY.out]
    rintro e w' ⟨rfl, rfl⟩
    go_wp2_with fail
    refine (int64Power_any _ k (by omega)).mono ?_
    rw [← HPN.out]
    rintro e w' ⟨rfl, rfl⟩
    go_wp2
    go_ret2
    exact ⟨rfl, rfl⟩
  · obtain ⟨q, hq⟩ : ∃ q : Int, a.tdiv (p : Int) = q := ⟨_, rfl⟩
    have hq2 : q = a / (p : Int) := by rw [← hq, Int.tdiv_eq_ediv_of_nonneg (by omega)]
    obtain ⟨q1, q2⟩ := ediv_le a p (by omega)
    rw [← hq2] at q1 q2 ⊢
    clear hq2
    go_enter Try.func23, Try.ntmps23
    go_wp2_with fail
    refine (bits64_any _ a HA.out).mono ?_
    rw [← HX.out]
    rintro e w' ⟨rfl, rfl⟩
    go_wp2_with fail
    refine (bits64_any _ b HB.out).mono ?_
    rw [← HY.out]
    rintro e w' ⟨rfl, rfl⟩
    go_wp2_with fail
    refine (int64Power_any _ k (by omega)).mono ?_
    rw [← HPN.out]
    rintro e w' ⟨rfl, rfl⟩
    go_wp2
    go_ret2
    exact ⟨rfl, rfl⟩
theorem tdiv64_in {a b : Int} (ha : R64 a) (h0 : ¬ b = 0) (h1 : ¬ b = -1) : R64 (a.tdiv b) := by
  obtain ⟨a1, a2⟩ := ha
  by_cases hb : b = 1
  · subst hb; rw [Int.tdiv_one]; exact ⟨a1, a2⟩
  · have h2 : (a.tdiv b).natAbs = a.natAbs / b.natAbs := Int.natAbs_tdiv a b
    have h3 : 2 ≤ b.natAbs := by omega
    have h4 : a.natAbs / b.natAbs ≤ a.natAbs / 2 := Nat.div_le_div_left h3 (by decide)
    exact ⟨by omega, by omega⟩
set_option maxRecDepth 100000 in
set_option maxHeartbeats 2000000 in
theorem reckon64_4 (w : World) (a b : Int) (ha : R64 a) (hb : R64 b) :
    Calls Try.prog 23 #[.int .i64 4, .int .i64 a, .int .i64 b, .int .i64 64] w fun e w' => e = .returned (.tuple #[.int .i64 (spec64 4 a b).1, .int .i64 (spec64 4 a b).2]) ∧ w = w' := by
  have HA : Hid (IntR a) := by obtain ⟨h1, h2⟩ := ha; exact ⟨by omega, by omega⟩
  have HB : Hid (IntR b) := by obtain ⟨h1, h2⟩ := hb; exact ⟨by omega, by omega⟩
  obtain ⟨a1, a2⟩ := ha
  obtain ⟨b1, b2⟩ := hb
  obtain ⟨x, hx⟩ : ∃ x : Int, x = a % 18446744073709551616 := ⟨_, rfl⟩
  obtain ⟨y, hy⟩ : ∃ y : Int, y = b % 18446744073709551616 := ⟨_, rfl⟩
  have x1 : 0 ≤ x := by omega
  have x2 : x < 18446744073709551616 := by omega
  have y1 : 0 ≤ y := by omega
  have y2 : y < 18446744073709551616 := by omega
  obtain ⟨k, hk⟩ : ∃ k : Nat, k = (b % 64).toNat := ⟨_, rfl⟩
  have hk2 : b % 64 = (k : Int) := by omega
  have hk3 : k < 64 := by omega
  have hy2 : y.tmod 64 = (k : Int) := by rw [Int.tmod_eq_emod_of_nonneg y1]; omega
  have HX := Lib.hid hx
  have HY := Lib.hid hy
  have HK := Lib.hid hk
  have HK2 := Lib.hid hk2
  clear hx hy hk hk2
  by_cases b0 : b = 0
  · rw [show spec64 4 a b = (0, 2) by simp [spec64, b0]]
    have e0 : (b == 0) = true := by simp [b0]
    clear b0
    go_enter Try.func23, Try.ntmps23
    go_wp2_with fail
    refine (bits64_any _ a HA.out).mono ?_
    rw [← HX.out]
    rintro e w' ⟨rfl, rfl⟩
    go_wp2_with fail
    refine (bits64_any _ b HB.out).mono ?_
    rw [← HY.out]
    rintro e w' ⟨rfl, rfl⟩
    go_wp2
    go_ret2
    exact ⟨rfl, rfl⟩
  have e0 := eq_no b0
  by_cases b3 : b = -1
  · have e1 : (b == -1) = true := by simp [b3]
    rw [show spec64 4 a b = (wrap64 (-a), 0) by simp [spec64, b0, b3]]
    clear b0 b3
    go_enter Try.func23, Try.ntmps23
    go_wp2_with fail
    refine (bits64_any _ a HA.out).mono ?_
    rw [← HX.out]
    rintro e w' ⟨rfl, rfl⟩
    go_wp2_with fail
    refine (bits64_any _ b HB.out).mono ?_
    rw [← HY.out]
    rintro e w' ⟨rfl, rfl⟩
    go_wp2_with fail
    refine (back64_any _ (IntKind.u64.wrap (-x)) (by rw [IntKind.wrap_u64]; exact ⟨Int.emod_nonneg _ (by decide), Int.emod_lt_of_pos _ (by decide)⟩)).mono ?_
    rintro e w' ⟨rfl, rfl⟩
    go_wp2
    go_ret2
    exact ⟨ret_tup (by rw [IntKind.wrap_u64, HX.out]; unfold wrap64; omega), rfl⟩
  have e1 := eq_no b3
  obtain ⟨q1, q2⟩ := tdiv64_in ⟨a1, a2⟩ b0 b3
  rw [show spec64 4 a b = (wrap64 (a.tdiv b), 0) by simp [spec64, b0]]
  obtain ⟨q, hq⟩ : ∃ q : Int, a.tdiv b = q := ⟨_, rfl⟩
  rw [hq] at q1 q2 ⊢
  rw [wrap64_id ⟨q1, q2⟩]
  go_enter Try.func23, Try.ntmps23
  go_wp2_with fail
  refine (bits64_any _ a HA.out).mono ?_
  rw [← HX.out]
  rintro e w' ⟨rfl, rfl⟩
  go_wp2_with fail
  refine (bits64_any _ b HB.out).mono ?_
  rw [← HY.out]
  rintro e w' ⟨rfl, rfl⟩
  go_wp2
  go_ret2
  exact ⟨rfl, rfl⟩
set_option maxRecDepth 100000 in
set_option maxHeartbeats 2000000 in
theorem reckon64_5 (w : World) (a b : Int) (ha : R64 a) (hb : R64 b) :
    Calls Try.prog 23 #[.int .i64 5, .int .i64 a, .int .i64 b, .int .i64 64] w fun e w' => e = .returned (.tuple #[.int .i64 (spec64 5 a b).1, .int .i64 (spec64 5 a b).2]) ∧ w = w' := by
  have HA : Hid (IntR a) := by obtain ⟨h1, h2⟩ := ha; exact ⟨by omega, by omega⟩
  have HB : Hid (IntR b) := by obtain ⟨h1, h2⟩ := hb; exact ⟨by omega, by omega⟩
  obtain ⟨a1, a2⟩ := ha
  obtain ⟨b1, b2⟩ := hb
  obtain ⟨x, hx⟩ : ∃ x : Int, x = a % 18446744073709551616 := ⟨_, rfl⟩
  obtain ⟨y, hy⟩ : ∃ y : Int, y = b % 18446744073709551616 := ⟨_, rfl⟩
  have x1 : 0 ≤ x := by omega
  have x2 : x < 18446744073709551616 := by omega
  have y1 : 0 ≤ y := by omega
  have y2 : y < 18446744073709551616 := by omega
  obtain ⟨k, hk⟩ : ∃ k : Nat, k = (b % 64).toNat := ⟨_, rfl⟩
  have hk2 : b % 64 = (k : Int) := by omega
  have hk3 : k < 64 := by omega
  have hy2 : y.tmod 64 = (k : Int) := by rw [Int.tmod_eq_emod_of_nonneg y1]; omega
  have HX := Lib.hid hx
  have HY := Lib.hid hy
  have HK := Lib.hid hk
  have HK2 := Lib.hid hk2
  clear hx hy hk hk2
  by_cases b0 : b = 0
  · rw [show spec64 5 a b = (0, 2) by simp [spec64, b0]]
    have e0 : (b == 0) = true := by simp [b0]
    clear b0
    go_enter Try.func23, Try.ntmps23
    go_wp2_with fail
    refine (bits64_any _ a HA.out).mono ?_
    rw [← HX.out]
    rintro e w' ⟨rfl, rfl⟩
    go_wp2_with fail
    refine (bits64_any _ b HB.out).mono ?_
    rw [← HY.out]
    rintro e w' ⟨rfl, rfl⟩
    go_wp2
    go_ret2
    exact ⟨rfl, rfl⟩
  have e0 := eq_no b0
  by_cases b3 : b = -1
  · have e1 : (b == -1) = true := by simp [b3]
    rw [show spec64 5 a b = (0, 0) by simp [spec64, b0, b3]]
    clear b0 b3
    go_enter Try.func23, Try.ntmps23
    go_wp2_with fail
    refine (bits64_any _ a HA.out).mono ?_
    rw [← HX.out]
    rintro e w' ⟨rfl, rfl⟩
    go_wp2_with fail
    refine (bits64_any _ b HB.out).mono ?_
    rw [← HY.out]
    rintro e w' ⟨rfl, rfl⟩
    go_wp2
    go_ret2
    exact ⟨rfl, rfl⟩
  have e1 := eq_no b3
  rw [show spec64 5 a b = (a.tmod b, 0) by simp [spec64, b0]]
  go_enter Try.func23, Try.ntmps23
  go_wp2_with fail
  refine (bits64_any _ a HA.out).mono ?_
  rw [← HX.out]
  rintro e w' ⟨rfl, rfl⟩
  go_wp2_with fail
  refine (bits64_any _ b HB.out).mono ?_
  rw [← HY.out]
  rintro e w' ⟨rfl, rfl⟩
  go_wp2
  go_ret2
  exact ⟨rfl, rfl⟩
set_option maxRecDepth 100000 in
set_option maxHeartbeats 2000000 in
theorem reckon64_no (w : World) (op a b : Int) (ha : R64 a) (hb : R64 b) (hop : IntR op) (c : ∀ k : Int, 1 ≤ k → k ≤ 11 → ¬ op = k) :
    Calls Try.prog 23 #[.int .i64 op, .int .i64 a, .int .i64 b, .int .i64 64] w fun e w' => e = .returned (.tuple #[.int .i64 (spec64 op a b).1, .int .i64 (spec64 op a b).2]) ∧ w = w' := by
  have HA : Hid (IntR a) := by obtain ⟨h1, h2⟩ := ha; exact ⟨by omega, by omega⟩
  have HB : Hid (IntR b) := by obtain ⟨h1, h2⟩ := hb; exact ⟨by omega, by omega⟩
  obtain ⟨a1, a2⟩ := ha
  obtain ⟨b1, b2⟩ := hb
  obtain ⟨x, hx⟩ : ∃ x : Int, x = a % 18446744073709551616 := ⟨_, rfl⟩
  obtain ⟨y, hy⟩ : ∃ y : Int, y = b % 18446744073709551616 := ⟨_, rfl⟩
  have x1 : 0 ≤ x := by omega
  have x2 : x < 18446744073709551616 := by omega
  have y1 : 0 ≤ y := by omega
  have y2 : y < 18446744073709551616 := by omega
  obtain ⟨k, hk⟩ : ∃ k : Nat, k = (b % 64).toNat := ⟨_, rfl⟩
  have hk2 : b % 64 = (k : Int) := by omega
  have hk3 : k < 64 := by omega
  have hy2 : y.tmod 64 = (k : Int) := by rw [Int.tmod_eq_emod_of_nonneg y1]; omega
  have HX := Lib.hid hx
  have HY := Lib.hid hy
  have HK := Lib.hid hk
  have HK2 := Lib.hid hk2
  clear hx hy hk hk2
  rw [spec64_other c]
  have c1 := eq_no (c 1 (by decide) (by decide))
  have c2 := eq_no (c 2 (by decide) (by decide))
  have c3 := eq_no (c 3 (by decide) (by decide))
  have c4 := eq_no (c 4 (by decide) (by decide))
  have c5 := eq_no (c 5 (by decide) (by decide))
  have c6 := eq_no (c 6 (by decide) (by decide))
  have c7 := eq_no (c 7 (by decide) (by decide))
  have c8 := eq_no (c 8 (by decide) (by decide))
  have c9 := eq_no (c 9 (by decide) (by decide))
  have c10 := eq_no (c 10 (by decide) (by decide))
  have c11 := eq_no (c 11 (by decide) (by decide))
  clear c
  go_enter Try.func23, Try.ntmps23
  go_wp2_with fail
  refine (bits64_any _ a HA.out).mono ?_
  rw [← HX.out]
  rintro e w' ⟨rfl, rfl⟩
  go_wp2_with fail
  refine (bits64_any _ b HB.out).mono ?_
  rw [← HY.out]
  rintro e w' ⟨rfl, rfl⟩
  go_wp2
  go_ret2
  exact ⟨rfl, rfl⟩
end Go.Proofs.Ytbbolbiepkehaaa
