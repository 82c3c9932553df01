/- pool: the reader's one. No condition. -/
import Derived.Test.YtlfoedagcagpgaaPoolRead
namespace Go.Proofs.Ytlfoedagcagpgaa
open Go.ChangeShapes Go.WideShapes Go.ChangeAt Go.RowKit
/-- A place that is read: the constant, the place behind, what is wrong. -/
def oneR (bs : List UInt8) (p : Nat) : KV × Nat × Int :=
  let a := nextR bs p 0 1
  if a.2.2 ≠ 0 then (⟨a.1, 0, 0, 0, []⟩, a.2.1, a.2.2)
  else if a.1 = 1 then
    let b := nextR bs a.2.1 0 2
    let c := textR bs b.2.1 b.2.2 b.1.toNat
    (⟨1, 0, 0, 0, c.1⟩, c.2.1, c.2.2)
  else if a.1 = 3 then
    let b := nextR bs a.2.1 0 4
    (⟨3, 0, 0, signB b.1 4, []⟩, b.2.1, b.2.2)
  else if a.1 = 5 then
    let b := nextR bs a.2.1 0 8
    (⟨5, 0, 0, signB b.1 8, []⟩, b.2.1, b.2.2)
  else if a.1 = 7 ∨ a.1 = 8 then
    let b := nextR bs a.2.1 0 2
    (⟨a.1, b.1, 0, 0, []⟩, b.2.1, b.2.2)
  else if a.1 = 9 ∨ a.1 = 10 ∨ a.1 = 12 then
    let b := nextR bs a.2.1 0 4
    (⟨a.1, b.1 / 65536, b.1 % 65536, 0, []⟩, b.2.1, b.2.2)
  else (⟨a.1, 0, 0, 0, []⟩, a.2.1, 8)
theorem getR_boundK (bs : List UInt8) (i n : Int) : U64 (getR bs i n).1 := by
  unfold getR U64
  by_cases h1 : n < 1 ∨ 8 < n
  · rw [if_pos h1]; exact ⟨by decide, by decide⟩
  rw [if_neg h1]
  by_cases h2 : i < 0 ∨ (bs.length : Int) < i ∨ (bs.length : Int) - i < n
  · rw [if_pos h2]; exact ⟨by decide, by decide⟩
  rw [if_neg h2]
  have h3 := getN_lt ((bs.drop i.toNat).take n.toNat)
  have h4 : 256 ^ ((bs.drop i.toNat).take n.toNat).length ≤ 256 ^ 8 := Nat.pow_le_pow_right (by decide) (by simp; omega)
  simp only
  omega
theorem getR_smallK (bs : List UInt8) (i n : Int) (m : Nat) (hn : n ≤ m) (hm : m ≤ 8) : (getR bs i n).1 < ((256 ^ m : Nat) : Int) := by
  have hp : 0 < 256 ^ m := Nat.pow_pos (by decide)
  unfold getR
  by_cases h1 : n < 1 ∨ 8 < n
  · rw [if_pos h1]; exact Int.ofNat_lt.2 hp
  rw [if_neg h1]
  by_cases h2 : i < 0 ∨ (bs.length : Int) < i ∨ (bs.length : Int) - i < n
  · rw [if_pos h2]; exact Int.ofNat_lt.2 hp
  rw [if_neg h2]
  have h3 := getN_lt ((bs.drop i.toNat).take n.toNat)
  have h4 : 256 ^ ((bs.drop i.toNat).take n.toNat).length ≤ 256 ^ m := Nat.pow_le_pow_right (by decide) (by simp; omega)
  exact Int.ofNat_lt.2 (Nat.lt_of_lt_of_le h3 h4)
theorem next_bound (bs : List UInt8) (p : Nat) (e : Int) (m : Nat) (hm : m ≤ 8) : 0 ≤ (nextR bs p e m).1 ∧ (nextR bs p e m).1 < ((256 ^ m : Nat) : Int) := by
  unfold nextR
  split
  · exact ⟨(getR_boundK _ _ _).1, getR_smallK _ _ _ _ (by omega) hm⟩
  · exact ⟨Int.le_refl _, Int.ofNat_lt.2 (Nat.pow_pos (by decide))⟩
theorem next_place (bs : List UInt8) (p : Nat) (e : Int) (m : Nat) : (nextR bs p e m).2.1 ≤ p + m := by
  unfold nextR; split <;> simp
/-- What is right is within the bytes. -/
theorem next_ok (bs : List UInt8) (p m : Nat) (h : (nextR bs p 0 m).2.2 = 0) : 1 ≤ m ∧ p + m ≤ bs.length := by
  unfold nextR at h
  rw [if_pos rfl] at h
  simp only at h
  unfold getR at h
  by_cases h1 : (m : Int) < 1 ∨ 8 < (m : Int)
  · rw [if_pos h1] at h; cases h
  rw [if_neg h1] at h
  by_cases h2 : (p : Int) < 0 ∨ (bs.length : Int) < p ∨ (bs.length : Int) - p < m
  · rw [if_pos h2] at h; cases h
  omega
end Go.Proofs.Ytlfoedagcagpgaa
