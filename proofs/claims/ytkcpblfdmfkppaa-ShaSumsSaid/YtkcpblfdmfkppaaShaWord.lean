/- sha: words of 32 bits in the walk; rotations. No condition. -/
import Derived.Test.YtkcpblfdmfkppaaBits
namespace Go.Proofs.Ytkcpblfdmfkppaa
open Go.ChangeShapes Go.WideShapes Go.ChangeAt Go.RowKit
theorem w_xor (a b : BitVec 32) : bits .xor .u32 (E a) (E b) = E (a ^^^ b) := by rw [bits32_xor, of_E, of_E]
theorem w_and (a b : BitVec 32) : bits .and .u32 (E a) (E b) = E (a &&& b) := by rw [bits32_and, of_E, of_E]
theorem w_or (a b : BitVec 32) : bits .or .u32 (E a) (E b) = E (a ||| b) := by rw [bits32_or, of_E, of_E]
theorem w_add (a b : BitVec 32) : IntKind.u32.wrap (E a + E b) = E (a + b) := by
  rw [IntKind.wrap_u32']
  unfold E
  rw [BitVec.toNat_add]
  omega
theorem w_shr (a : BitVec 32) (k : Nat) : E a / (2 ^ k : Nat) = E (a >>> k) := by
  unfold E
  rw [BitVec.toNat_ushiftRight, Nat.shiftRight_eq_div_pow]
  exact (Int.natCast_ediv _ _).symm
theorem w_shl (a : BitVec 32) (k : Nat) : IntKind.u32.wrap (E a * (2 ^ k : Nat)) = E (a <<< k) := by
  rw [IntKind.wrap_u32']
  unfold E
  rw [BitVec.toNat_shiftLeft, Nat.shiftLeft_eq]
  have h : ((a.toNat : Int) * ((2 ^ k : Nat) : Int)) = ((a.toNat * 2 ^ k : Nat) : Int) := by push_cast; rfl
  rw [h]
  omega
/-- To the right, around. -/
def rotR (a : BitVec 32) (n : Nat) : BitVec 32 := (a >>> n) ||| (a <<< (32 - n))
theorem w_rot (a : BitVec 32) (n : Nat) : bits .or .u32 (IntKind.u32.wrap (E a * (2 ^ (32 - n) : Nat))) (E a / (2 ^ n : Nat)) = E (rotR a n) := by
  rw [w_shl, w_shr, w_or, BitVec.or_comm]
  rfl
theorem w_rot2 (a : BitVec 32) (n : Nat) : bits .or .u32 (E a / (2 ^ n : Nat)) (IntKind.u32.wrap (E a * (2 ^ (32 - n) : Nat))) = E (rotR a n) := by
  rw [w_shl, w_shr, w_or]
  rfl
theorem ret_word {a b : Int} {k : IntKind} (h : a = b) : Ending.returned (.int k a) = Ending.returned (.int k b) := by rw [h]
set_option maxHeartbeats 4000000 in
set_option maxRecDepth 100000 in
theorem rotl_any (w : World) (x : BitVec 32) (n : Nat) (h : n = 2 ∨ n = 6 ∨ n = 7 ∨ n = 11 ∨ n = 13 ∨ n = 17 ∨ n = 18 ∨ n = 19 ∨ n = 22 ∨ n = 25) :
    Calls Try.prog 34 #[.int .u32 (E x), .int .i64 (-(n : Int))] w fun e w' => e = .returned (.int .u32 (E (rotR x n))) ∧ w' = w := by
  obtain ⟨k, hk⟩ : ∃ k, k = 32 - n := ⟨_, rfl⟩
  have hr := w_rot x n
  rw [← hk] at hr
  obtain ⟨z, hz⟩ : ∃ z, z = IntKind.u64.wrap (-(n : Int)) := ⟨_, rfl⟩
  have hc : bits .and .u64 z 31 = (k : Int) := by
    rw [hz, hk]
    rcases h with rfl | rfl | rfl | rfl | rfl | rfl | rfl | rfl | rfl | rfl <;> decide
  have hn : 1 ≤ n ∧ n ≤ 25 := by omega
  obtain ⟨hn1, hn2⟩ := hn
  have hk1 : k ≤ 31 := by omega
  have hk2 : 1 ≤ k := by omega
  have hw : IntKind.u64.wrap (32 - (k : Int)) = (n : Int) := by rw [IntKind.wrap_u64]; omega
  have hz2 := hz.symm
  have h0 := E_nonneg x
  have h1 : E x < 4294967296 := E_lt x
  generalize E (rotR x n) = r at *
  generalize E x = v at *
  have HR := Lib.hid hr
  clear hr h hk hz
  go_enter Try.func34, Try.ntmps34
  go_wp2_with fail
  go_ret
  exact ⟨ret_word HR.out, rfl⟩
set_option maxHeartbeats 4000000 in
set_option maxRecDepth 100000 in
theorem turn_any (w : World) (x : BitVec 32) (n : Nat) (h : n = 2 ∨ n = 6 ∨ n = 7 ∨ n = 11 ∨ n = 13 ∨ n = 17 ∨ n = 18 ∨ n = 19 ∨ n = 22 ∨ n = 25) :
    Calls Try.prog 28 #[.int .u32 (E x), .int .i64 (n : Nat)] w fun e w' => e = .returned (.int .u32 (E (rotR x n))) ∧ w' = w := by
  have HX := Lib.hid (rotl_any w x n h)
  have hn : n ≤ 25 := by omega
  have hw : IntKind.i64.wrap (-(n : Int)) = -(n : Int) := by rw [IntKind.wrap_i64]; omega
  clear h
  go_enter Try.func28, Try.ntmps28
  go_wp2_with fail
  refine HX.out.mono ?_
  rintro e w' ⟨rfl, rfl⟩
  go_wp2_with fail
  go_ret
  exact ⟨rfl, rfl⟩
end Go.Proofs.Ytkcpblfdmfkppaa
