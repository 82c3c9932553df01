/- num: Put and Get are each other's back. No program in sight. -/
import Derived.Test.YtdnnodpchjnleaaNumPlain
namespace Go.Proofs.Ytdnnodpchjnleaa
theorem putB_succ (v n : Nat) : putB v (n + 1) = putB (v / 256) n ++ [UInt8.ofNat (v % 256)] := by
  unfold putB
  rw [List.range_succ, List.map_append]
  congr 1
  · apply List.map_congr_left
    intro i hi
    have hi := List.mem_range.1 hi
    rw [show n + 1 - 1 - i = (n - 1 - i) + 1 by omega, Nat.pow_succ, Nat.mul_comm, ← Nat.div_div_eq_div_mul]
  · simp
theorem put_get (cs : List UInt8) : putB (getN cs) cs.length = cs := by
  generalize hn : cs.length = n
  induction n generalizing cs with
  | zero => rw [List.length_eq_zero_iff.1 hn]; rfl
  | succ n ih =>
    have h1 : cs ≠ [] := by intro h; rw [h] at hn; simp at hn
    obtain ⟨ds, c, rfl⟩ : ∃ ds c, cs = ds ++ [c] := ⟨cs.dropLast, cs.getLast h1, (List.dropLast_concat_getLast h1).symm⟩
    have hl : ds.length = n := by simpa using hn
    have hc := c.toNat_lt
    rw [putB_succ, getN_snoc, show (getN ds * 256 + c.toNat) / 256 = getN ds by omega, show (getN ds * 256 + c.toNat) % 256 = c.toNat by omega, ih ds hl]
    simp
theorem get_put (v n : Nat) : getN (putB v n) = v % 256 ^ n := by
  induction n generalizing v with
  | zero => simp [putB, getN, Nat.mod_one]
  | succ n ih =>
    rw [putB_succ, getN_snoc, ih, UInt8.toNat_ofNat_of_lt' (by show v % 256 < 256; omega), Nat.pow_succ, Nat.mul_comm (256 ^ n) 256, Nat.mod_mul]
    omega
end Go.Proofs.Ytdnnodpchjnleaa
