/- Bit operations of the walk as BitVec. No program in sight. -/
import Derived.Test.YtlpjcfiibbcdjaaGreatDoorLib
namespace Go.Proofs.YtlpjcfiibbcdjaaGreatDoor
open Go.RowKit
def E {n : Nat} (v : BitVec n) : Int := (v.toNat : Int)
theorem E_inj {n : Nat} {a b : BitVec n} : E a = E b ↔ a = b := by
  unfold E
  exact ⟨fun h => BitVec.eq_of_toNat_eq (by exact_mod_cast h), fun h => by rw [h]⟩
theorem of_E {n : Nat} (v : BitVec n) : BitVec.ofInt n (E v) = v := by
  unfold E; simp
theorem E_nonneg {n : Nat} (v : BitVec n) : 0 ≤ E v := by unfold E; omega
theorem E_lt {n : Nat} (v : BitVec n) : E v < 2 ^ n := by have := v.isLt; unfold E; exact_mod_cast this
theorem xor_left {n : Nat} (a b c : BitVec n) : a ^^^ (b ^^^ c) = b ^^^ (a ^^^ c) := by
  rw [← BitVec.xor_assoc, BitVec.xor_comm a b, BitVec.xor_assoc]
theorem xor_xor {n : Nat} (a b : BitVec n) : a ^^^ (a ^^^ b) = b := by
  rw [← BitVec.xor_assoc]; simp
/-- A number that fits. -/
theorem E_of {n : Nat} {x : Int} (h0 : 0 ≤ x) (h : x < 2 ^ n) : x = E (BitVec.ofInt n x) := by
  unfold E
  obtain ⟨a, rfl⟩ := Int.eq_ofNat_of_zero_le h0
  have ha : a < 2 ^ n := by exact_mod_cast h
  simp [Nat.mod_eq_of_lt ha]
theorem bits8_and (x y : Int) : bits .and .u8 x y = E (BitVec.ofInt 8 x &&& BitVec.ofInt 8 y) := by
  show IntKind.u8.wrap ((BitVec.ofInt 8 x &&& BitVec.ofInt 8 y).toNat) = _
  rw [IntKind.wrap_u8']; have := (BitVec.ofInt 8 x &&& BitVec.ofInt 8 y).isLt; unfold E; omega
theorem bits8_or (x y : Int) : bits .or .u8 x y = E (BitVec.ofInt 8 x ||| BitVec.ofInt 8 y) := by
  show IntKind.u8.wrap ((BitVec.ofInt 8 x ||| BitVec.ofInt 8 y).toNat) = _
  rw [IntKind.wrap_u8']; have := (BitVec.ofInt 8 x ||| BitVec.ofInt 8 y).isLt; unfold E; omega
theorem bits8_xor (x y : Int) : bits .xor .u8 x y = E (BitVec.ofInt 8 x ^^^ BitVec.ofInt 8 y) := by
  show IntKind.u8.wrap ((BitVec.ofInt 8 x ^^^ BitVec.ofInt 8 y).toNat) = _
  rw [IntKind.wrap_u8']; have := (BitVec.ofInt 8 x ^^^ BitVec.ofInt 8 y).isLt; unfold E; omega
theorem bits8_andNot (x y : Int) : bits .andNot .u8 x y = E (BitVec.ofInt 8 x &&& ~~~BitVec.ofInt 8 y) := by
  show IntKind.u8.wrap ((BitVec.ofInt 8 x &&& ~~~BitVec.ofInt 8 y).toNat) = _
  rw [IntKind.wrap_u8']; have := (BitVec.ofInt 8 x &&& ~~~BitVec.ofInt 8 y).isLt; unfold E; omega
theorem bits_u8 (op : BinOp) (x y : Int) : 0 ≤ bits op .u8 x y ∧ bits op .u8 x y < 256 := by
  unfold bits; simp only [IntKind.wrap_u8']; omega
theorem bits16_and (x y : Int) : bits .and .u16 x y = E (BitVec.ofInt 16 x &&& BitVec.ofInt 16 y) := by
  show IntKind.u16.wrap ((BitVec.ofInt 16 x &&& BitVec.ofInt 16 y).toNat) = _
  rw [IntKind.wrap_u16]; have := (BitVec.ofInt 16 x &&& BitVec.ofInt 16 y).isLt; unfold E; omega
theorem bits16_or (x y : Int) : bits .or .u16 x y = E (BitVec.ofInt 16 x ||| BitVec.ofInt 16 y) := by
  show IntKind.u16.wrap ((BitVec.ofInt 16 x ||| BitVec.ofInt 16 y).toNat) = _
  rw [IntKind.wrap_u16]; have := (BitVec.ofInt 16 x ||| BitVec.ofInt 16 y).isLt; unfold E; omega
theorem bits16_xor (x y : Int) : bits .xor .u16 x y = E (BitVec.ofInt 16 x ^^^ BitVec.ofInt 16 y) := by
  show IntKind.u16.wrap ((BitVec.ofInt 16 x ^^^ BitVec.ofInt 16 y).toNat) = _
  rw [IntKind.wrap_u16]; have := (BitVec.ofInt 16 x ^^^ BitVec.ofInt 16 y).isLt; unfold E; omega
theorem bits16_andNot (x y : Int) : bits .andNot .u16 x y = E (BitVec.ofInt 16 x &&& ~~~BitVec.ofInt 16 y) := by
  show IntKind.u16.wrap ((BitVec.ofInt 16 x &&& ~~~BitVec.ofInt 16 y).toNat) = _
  rw [IntKind.wrap_u16]; have := (BitVec.ofInt 16 x &&& ~~~BitVec.ofInt 16 y).isLt; unfold E; omega
theorem bits_u16 (op : BinOp) (x y : Int) : 0 ≤ bits op .u16 x y ∧ bits op .u16 x y < 65536 := by
  unfold bits; simp only [IntKind.wrap_u16]; omega
theorem bits32_and (x y : Int) : bits .and .u32 x y = E (BitVec.ofInt 32 x &&& BitVec.ofInt 32 y) := by
  show IntKind.u32.wrap ((BitVec.ofInt 32 x &&& BitVec.ofInt 32 y).toNat) = _
  rw [IntKind.wrap_u32']; have := (BitVec.ofInt 32 x &&& BitVec.ofInt 32 y).isLt; unfold E; omega
theorem bits32_or (x y : Int) : bits .or .u32 x y = E (BitVec.ofInt 32 x ||| BitVec.ofInt 32 y) := by
  show IntKind.u32.wrap ((BitVec.ofInt 32 x ||| BitVec.ofInt 32 y).toNat) = _
  rw [IntKind.wrap_u32']; have := (BitVec.ofInt 32 x ||| BitVec.ofInt 32 y).isLt; unfold E; omega
theorem bits32_xor (x y : Int) : bits .xor .u32 x y = E (BitVec.ofInt 32 x ^^^ BitVec.ofInt 32 y) := by
  show IntKind.u32.wrap ((BitVec.ofInt 32 x ^^^ BitVec.ofInt 32 y).toNat) = _
  rw [IntKind.wrap_u32']; have := (BitVec.ofInt 32 x ^^^ BitVec.ofInt 32 y).isLt; unfold E; omega
theorem bits32_andNot (x y : Int) : bits .andNot .u32 x y = E (BitVec.ofInt 32 x &&& ~~~BitVec.ofInt 32 y) := by
  show IntKind.u32.wrap ((BitVec.ofInt 32 x &&& ~~~BitVec.ofInt 32 y).toNat) = _
  rw [IntKind.wrap_u32']; have := (BitVec.ofInt 32 x &&& ~~~BitVec.ofInt 32 y).isLt; unfold E; omega
theorem bits_u32 (op : BinOp) (x y : Int) : 0 ≤ bits op .u32 x y ∧ bits op .u32 x y < 4294967296 := by
  unfold bits; simp only [IntKind.wrap_u32']; omega
theorem bits64_and (x y : Int) : bits .and .u64 x y = E (BitVec.ofInt 64 x &&& BitVec.ofInt 64 y) := by
  show IntKind.u64.wrap ((BitVec.ofInt 64 x &&& BitVec.ofInt 64 y).toNat) = _
  rw [IntKind.wrap_u64]; have := (BitVec.ofInt 64 x &&& BitVec.ofInt 64 y).isLt; unfold E; omega
theorem bits64_or (x y : Int) : bits .or .u64 x y = E (BitVec.ofInt 64 x ||| BitVec.ofInt 64 y) := by
  show IntKind.u64.wrap ((BitVec.ofInt 64 x ||| BitVec.ofInt 64 y).toNat) = _
  rw [IntKind.wrap_u64]; have := (BitVec.ofInt 64 x ||| BitVec.ofInt 64 y).isLt; unfold E; omega
theorem bits64_xor (x y : Int) : bits .xor .u64 x y = E (BitVec.ofInt 64 x ^^^ BitVec.ofInt 64 y) := by
  show IntKind.u64.wrap ((BitVec.ofInt 64 x ^^^ BitVec.ofInt 64 y).toNat) = _
  rw [IntKind.wrap_u64]; have := (BitVec.ofInt 64 x ^^^ BitVec.ofInt 64 y).isLt; unfold E; omega
theorem bits64_andNot (x y : Int) : bits .andNot .u64 x y = E (BitVec.ofInt 64 x &&& ~~~BitVec.ofInt 64 y) := by
  show IntKind.u64.wrap ((BitVec.ofInt 64 x &&& ~~~BitVec.ofInt 64 y).toNat) = _
  rw [IntKind.wrap_u64]; have := (BitVec.ofInt 64 x &&& ~~~BitVec.ofInt 64 y).isLt; unfold E; omega
theorem bits_u64 (op : BinOp) (x y : Int) : 0 ≤ bits op .u64 x y ∧ bits op .u64 x y < 18446744073709551616 := by
  unfold bits; simp only [IntKind.wrap_u64]; omega
theorem and16_63 {x : Int} (h0 : 0 ≤ x) (h1 : x < 65536) : bits .and .u16 x 63 = x % 64 := by
  rw [u16_and x 63 h0 h1 (by decide) (by decide)]
  show ((x.toNat &&& 63 : Nat) : Int) = _
  rw [nat_mask6]; omega
end Go.Proofs.YtlpjcfiibbcdjaaGreatDoor
