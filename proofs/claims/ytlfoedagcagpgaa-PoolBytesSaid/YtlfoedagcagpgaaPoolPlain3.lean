/- pool: what is written is read as it was, place by place. No program in sight. -/
import Derived.Test.YtlfoedagcagpgaaPoolParse
namespace Go.Proofs.Ytlfoedagcagpgaa
open Go.RowKit
theorem get_put_at (pre t : List UInt8) (v m : Nat) (h1 : 1 ≤ m) (h8 : m ≤ 8) : getR (pre ++ (putB v m ++ t)) (pre.length : Nat) (m : Nat) = (((v % 256 ^ m : Nat) : Int), 0) := by
  unfold getR
  rw [if_neg (by omega), if_neg (by simp [putB_length]; omega)]
  rw [Int.toNat_natCast, Int.toNat_natCast, List.drop_left, List.take_left' (putB_length v m), get_put]
theorem next_put (pre t : List UInt8) (v m : Nat) (h1 : 1 ≤ m) (h8 : m ≤ 8) : nextR (pre ++ (putB v m ++ t)) pre.length 0 m = (((v % 256 ^ m : Nat) : Int), pre.length + m, 0) := by
  unfold nextR
  rw [if_pos rfl, get_put_at pre t v m h1 h8]
theorem text_put (pre t s : List UInt8) : textR (pre ++ (s ++ t)) pre.length 0 s.length = (s, pre.length + s.length, 0) := by
  unfold textR
  rw [if_neg (by simp), if_neg (by simp; omega), List.drop_left, List.take_left' rfl]
/-- A place that may be written. -/
def FitsK (c : KV) : Prop :=
  (c.tag = 1 ∧ c.a = 0 ∧ c.b = 0 ∧ c.n = 0 ∧ c.s.length ≤ 65535) ∨ (c.tag = 3 ∧ c.a = 0 ∧ c.b = 0 ∧ c.s = [] ∧ -2147483648 ≤ c.n ∧ c.n ≤ 2147483647) ∨
  (c.tag = 5 ∧ c.a = 0 ∧ c.b = 0 ∧ c.s = [] ∧ -9223372036854775808 ≤ c.n ∧ c.n ≤ 9223372036854775807) ∨ ((c.tag = 7 ∨ c.tag = 8) ∧ c.b = 0 ∧ c.n = 0 ∧ c.s = [] ∧ 0 ≤ c.a ∧ c.a ≤ 65535) ∨
  ((c.tag = 9 ∨ c.tag = 10 ∨ c.tag = 12) ∧ c.n = 0 ∧ c.s = [] ∧ 0 ≤ c.a ∧ c.a ≤ 65535 ∧ 0 ≤ c.b ∧ c.b ≤ 65535)
theorem put_app2 (pre x y t : List UInt8) : pre ++ (x ++ y ++ t) = (pre ++ x) ++ (y ++ t) := by simp
theorem one_tag (bs : List UInt8) (p g : Nat) (h : nextR bs p 0 1 = ((g : Int), p + 1, 0)) : (nextR bs p 0 1).1 = g ∧ (nextR bs p 0 1).2.1 = p + 1 ∧ (nextR bs p 0 1).2.2 = 0 := by rw [h]; exact ⟨rfl, rfl, rfl⟩
theorem put_pair (a b : Nat) (hb : b < 65536) : putB (a * 65536 + b) 4 = putB a 2 ++ putB b 2 := by
  rw [putB_succ _ 3, putB_succ _ 2, putB_succ b 1, putB_succ _ 0]
  rw [show (a * 65536 + b) / 256 / 256 = a by omega, show (a * 65536 + b) % 256 = b % 256 by omega, show (a * 65536 + b) / 256 % 256 = b / 256 % 256 by omega]
  simp [putB]
theorem one_enc (pre t : List UInt8) (c : KV) (h : FitsK c) : oneR (pre ++ (oneK c ++ t)) pre.length = (c, pre.length + (oneK c).length, 0) := by
  obtain ⟨ct, ca, cb, cn, cs⟩ := c
  unfold FitsK at h
  simp only at h
  rcases h with ⟨rfl, rfl, rfl, rfl, h⟩ | ⟨rfl, rfl, rfl, rfl, h, h'⟩ | ⟨rfl, rfl, rfl, rfl, h, h'⟩ | ⟨hk, rfl, rfl, rfl, h, h'⟩ | ⟨hk, rfl, rfl, h, h', h2, h3⟩
  · have e : oneK ⟨1, 0, 0, 0, cs⟩ = putB 1 1 ++ (putB cs.length 2 ++ cs) := rfl
    have n1 := next_put pre (putB cs.length 2 ++ cs ++ t) 1 1 (by decide) (by decide)
    have n2 := next_put (pre ++ putB 1 1) (cs ++ t) cs.length 2 (by decide) (by decide)
    have n3 := text_put (pre ++ putB 1 1 ++ putB cs.length 2) t cs
    simp only [List.length_append, putB_length, List.append_assoc] at n1 n2 n3
    rw [show cs.length % 256 ^ 2 = cs.length from Nat.mod_eq_of_lt (by omega)] at n2
    rw [e]
    unfold oneR
    simp only [List.append_assoc, List.length_append, putB_length]
    rw [n1]
    simp [n2, n3]
    omega
  · have e : oneK ⟨3, 0, 0, cn, []⟩ = putB 3 1 ++ putB (u64N cn) 4 := rfl
    have n1 := next_put pre (putB (u64N cn) 4 ++ t) 3 1 (by decide) (by decide)
    have n2 := next_put (pre ++ putB 3 1) t (u64N cn) 4 (by decide) (by decide)
    simp only [List.length_append, putB_length, List.append_assoc] at n1 n2
    have hs : signB ((u64N cn % 256 ^ 4 : Nat) : Int) 4 = cn := by
      rw [signB_4, show (256 : Nat) ^ 4 = 4294967296 by decide]
      unfold wrap32 u64N; omega
    rw [e]
    unfold oneR
    simp only [List.append_assoc, List.length_append, putB_length]
    rw [n1]
    simp only [n2, hs]
    simp
  · have e : oneK ⟨5, 0, 0, cn, []⟩ = putB 5 1 ++ putB (u64N cn) 8 := rfl
    have n1 := next_put pre (putB (u64N cn) 8 ++ t) 5 1 (by decide) (by decide)
    have n2 := next_put (pre ++ putB 5 1) t (u64N cn) 8 (by decide) (by decide)
    simp only [List.length_append, putB_length, List.append_assoc] at n1 n2
    have hs : signB ((u64N cn % 256 ^ 8 : Nat) : Int) 8 = cn := by
      rw [signB_8, show (256 : Nat) ^ 8 = 18446744073709551616 by decide]
      unfold wrap64 u64N; omega
    rw [e]
    unfold oneR
    simp only [List.append_assoc, List.length_append, putB_length]
    rw [n1]
    simp only [n2, hs]
    simp
  · have e : ∀ g : Int, g = 7 ∨ g = 8 → oneK ⟨g, ca, 0, 0, []⟩ = putB g.toNat 1 ++ putB (u64N ca) 2 := by
      rintro g (rfl | rfl) <;> rfl
    have hv : ((u64N ca % 256 ^ 2 : Nat) : Int) = ca := by
      rw [show (256 : Nat) ^ 2 = 65536 by decide]
      unfold u64N; omega
    rw [e ct hk]
    have n1 := next_put pre (putB (u64N ca) 2 ++ t) ct.toNat 1 (by decide) (by decide)
    have n2 := next_put (pre ++ putB ct.toNat 1) t (u64N ca) 2 (by decide) (by decide)
    simp only [List.length_append, putB_length, List.append_assoc] at n1 n2
    have hg : ((ct.toNat % 256 ^ 1 : Nat) : Int) = ct := by omega
    rw [hg] at n1
    rw [hv] at n2
    unfold oneR
    simp only [List.append_assoc, List.length_append, putB_length]
    rw [n1]
    rcases hk with rfl | rfl <;> (simp only [show (7 : Int).toNat = 7 from rfl, show (8 : Int).toNat = 8 from rfl] at n2 ⊢; simp [n2])
  · have e : ∀ g : Int, g = 9 ∨ g = 10 ∨ g = 12 → oneK ⟨g, ca, cb, 0, []⟩ = putB g.toNat 1 ++ (putB (u64N ca) 2 ++ putB (u64N cb) 2) := by
      rintro g (rfl | rfl | rfl) <;> rfl
    have ea : ((u64N ca : Nat) : Int) = ca := by unfold u64N; omega
    have eb : ((u64N cb : Nat) : Int) = cb := by unfold u64N; omega
    rw [e ct hk, ← put_pair _ _ (by omega)]
    generalize u64N ca = x at *
    generalize u64N cb = y at *
    have n1 := next_put pre (putB (x * 65536 + y) 4 ++ t) ct.toNat 1 (by decide) (by decide)
    have n2 := next_put (pre ++ putB ct.toNat 1) t (x * 65536 + y) 4 (by decide) (by decide)
    simp only [List.length_append, putB_length, List.append_assoc] at n1 n2
    have hg : ((ct.toNat % 256 ^ 1 : Nat) : Int) = ct := by omega
    have hv : (x * 65536 + y) % 256 ^ 4 = x * 65536 + y := Nat.mod_eq_of_lt (by omega)
    rw [hg] at n1
    rw [hv] at n2
    have v1 : (((x * 65536 + y : Nat) : Int)) / 65536 = ca := by omega
    have v2 : (((x * 65536 + y : Nat) : Int)) % 65536 = cb := by omega
    generalize ((x * 65536 + y : Nat) : Int) = V at n2 v1 v2
    unfold oneR
    simp only [List.append_assoc, List.length_append, putB_length]
    rw [n1]
    rcases hk with rfl | rfl | rfl <;> (simp only [show (9 : Int).toNat = 9 from rfl, show (10 : Int).toNat = 10 from rfl, show (12 : Int).toNat = 12 from rfl] at n2 ⊢; simp [n2, v1, v2])
end Go.Proofs.Ytlfoedagcagpgaa
