/- Bytes of which the first k are turned in their lowest bit. No condition. -/
import Derived.Test.YtechkdnoekffmaaLib3
namespace Go.Proofs.Ytechkdnoekffmaa
open Go.ChangeShapes Go.WideShapes Go.ChangeAt Go.RowKit
def flip1 (x : UInt8) : UInt8 := UInt8.ofNat (x.toNat ^^^ 1)
theorem flip1_lt (x : UInt8) : x.toNat ^^^ 1 < 256 := Nat.xor_lt_two_pow (n := 8) x.toNat_lt (by decide)
theorem flip1_nat (x : UInt8) : (flip1 x).toNat = x.toNat ^^^ 1 := UInt8.toNat_ofNat_of_lt' (flip1_lt x)
theorem flip1_flip1 (x : UInt8) : flip1 (flip1 x) = x := by
  apply UInt8.toNat_inj.1
  rw [flip1_nat, flip1_nat, Nat.xor_assoc, Nat.xor_self, Nat.xor_zero]
theorem flip1_bits (x : UInt8) : bits .xor .u8 (x.toNat : Int) 1 = ((flip1 x).toNat : Int) := by
  have hx := x.toNat_lt
  have e : ∀ n : Nat, n < 256 → bits .xor .u8 (n : Int) 1 = ((n ^^^ 1 : Nat) : Int) := by decide +kernel
  rw [e _ hx, flip1_nat]
def flipTo (xs : List UInt8) (k : Nat) : List UInt8 := (xs.take k).map flip1 ++ xs.drop k
theorem flipTo_0 (xs : List UInt8) : flipTo xs 0 = xs := by simp [flipTo]
theorem flipTo_all (xs : List UInt8) (k : Nat) (h : xs.length ≤ k) : flipTo xs k = xs.map flip1 := by
  unfold flipTo; rw [List.take_of_length_le h, List.drop_of_length_le h, List.append_nil]
theorem flipTo_length (xs : List UInt8) (k : Nat) : (flipTo xs k).length = xs.length := by
  unfold flipTo; simp; omega
theorem flipTo_get (xs : List UInt8) (k : Nat) (h : k < xs.length) : (flipTo xs k)[k]'(by rw [flipTo_length]; exact h) = xs[k] := by
  have hl : ((xs.take k).map flip1).length = k := by simp; omega
  unfold flipTo
  rw [List.getElem_append_right (by omega)]
  simp only [hl, Nat.sub_self, List.getElem_drop, Nat.add_zero]
theorem flipTo_set (xs : List UInt8) (k : Nat) (h : k < xs.length) : (flipTo xs k).set k (flip1 xs[k]) = flipTo xs (k + 1) := by
  have hl : ((xs.take k).map flip1).length = k := by simp; omega
  unfold flipTo
  rw [List.set_append_right _ _ (by omega), hl, Nat.sub_self, List.drop_eq_getElem_cons h, List.set_cons_zero, List.take_succ_eq_append_getElem h, List.map_append, List.append_assoc]
  rfl
theorem flip_flip (xs : List UInt8) : (xs.map flip1).map flip1 = xs := by
  rw [List.map_map]
  exact (List.map_congr_left (fun x _ => flip1_flip1 x)).trans (List.map_id xs)
end Go.Proofs.Ytechkdnoekffmaa
