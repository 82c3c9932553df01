/- num: what Put and Get compute. No program in sight. -/
import Derived.Test.YtlpjcfiibbcdjaaGreatDoorLib2
namespace Go.Proofs.YtlpjcfiibbcdjaaGreatDoor
/-- A number's bytes. -/
def putB (v n : Nat) : List UInt8 := (List.range n).map fun i => UInt8.ofNat (v / 256 ^ (n - 1 - i) % 256)
theorem putB_length (v n : Nat) : (putB v n).length = n := by simp [putB]
theorem putB_take (v n k : Nat) (h : k < n) : (putB v n).take (k + 1) = (putB v n).take k ++ [UInt8.ofNat (v / 256 ^ (n - 1 - k) % 256)] := by
  rw [List.take_succ_eq_append_getElem (by rw [putB_length]; exact h)]
  simp [putB]
theorem encB_byte (x : Nat) : encB (UInt8.ofNat (x % 256)) = .int .u8 ((x : Int) % 256) := by
  unfold encB
  rw [UInt8.toNat_ofNat_of_lt' (by show x % 256 < 256; omega)]
  rw [Int.natCast_emod]; rfl
/-- The number of bytes. -/
def getN (bs : List UInt8) : Nat := bs.foldl (fun v c => v * 256 + c.toNat) 0
theorem getN_take (bs : List UInt8) (k : Nat) (h : k < bs.length) : getN (bs.take (k + 1)) = getN (bs.take k) * 256 + bs[k].toNat := fold_take _ _ bs k h
theorem getN_snoc (bs : List UInt8) (c : UInt8) : getN (bs ++ [c]) = getN bs * 256 + c.toNat := by simp [getN]
theorem getN_lt (bs : List UInt8) : getN bs < 256 ^ bs.length := by
  generalize hn : bs.length = n
  induction n generalizing bs with
  | zero => have : bs = [] := List.length_eq_zero_iff.1 hn; subst this; simp [getN]
  | succ n ih =>
    have h1 : bs ≠ [] := by intro h; rw [h] at hn; simp at hn
    obtain ⟨as', c, rfl⟩ : ∃ as' c, bs = as' ++ [c] := ⟨bs.dropLast, bs.getLast h1, (List.dropLast_concat_getLast h1).symm⟩
    have h2 := ih as' (by simpa using hn)
    rw [getN_snoc, Nat.pow_succ]
    have := c.toNat_lt
    omega
theorem getN_take_lt (bs : List UInt8) (k : Nat) (h : k ≤ 7) : getN (bs.take k) < 72057594037927936 := by
  have h1 := getN_lt (bs.take k)
  have h2 : 256 ^ (bs.take k).length ≤ 256 ^ 7 := Nat.pow_le_pow_right (by decide) (by simp; omega)
  omega
theorem or64_join {x y : Nat} (hx : x % 256 = 0) (hy : y < 256) (h : x + y < 18446744073709551616) : bits .or .u64 (x : Int) (y : Int) = (x : Int) + y := by
  rw [u64_or_nat x y (by omega) (by omega), nat_join 8 x y hx hy]
  push_cast; rfl
/-- What Get tells. -/
def getR (bs : List UInt8) (at_ n : Int) : Int × Int :=
  if n < 1 ∨ 8 < n then (0, 1)
  else if at_ < 0 ∨ (bs.length : Int) < at_ ∨ (bs.length : Int) - at_ < n then (0, 6)
  else (getN ((bs.drop at_.toNat).take n.toNat), 0)
theorem shr_byte (v e : Nat) : ((v : Int) / 2 ^ (8 * e)) = ((v / 256 ^ e : Nat) : Int) := by
  rw [Int.natCast_ediv, Int.natCast_pow, Int.pow_mul]; rfl
theorem tmod_byte (x : Nat) : ((x : Nat) : Int).tmod 256 % 256 = (x : Int) % 256 := by
  rw [Int.tmod_eq_emod_of_nonneg (by omega), Int.emod_emod]
theorem putB_take1 (v n : Nat) (h : 0 < n) : (putB v n).take (0 + 1) = [UInt8.ofNat (v / 256 ^ (n - 1) % 256)] := by
  rw [putB_take v n 0 h]; rfl
end Go.Proofs.YtlpjcfiibbcdjaaGreatDoor
