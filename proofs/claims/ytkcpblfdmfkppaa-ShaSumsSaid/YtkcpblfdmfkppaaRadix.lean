/- Numbers as rows of 16 bits, the lowest first. No program in sight. -/
import Derived.Test.YtkcpblfdmfkppaaLib
namespace Go.Proofs.Ytkcpblfdmfkppaa
/-- What a row tells. -/
def dv : List Nat → Nat
  | [] => 0
  | d :: l => d + 65536 * dv l
/-- Each of 16 bits. -/
def Dig (l : List Nat) : Prop := ∀ i (h : i < l.length), l[i] < 65536
theorem Dig.tail {d : Nat} {l : List Nat} (h : Dig (d :: l)) : Dig l := fun i hi => by
  have := h (i + 1) (by simp; omega)
  simpa using this
theorem dv_lt : ∀ (l : List Nat), Dig l → dv l < 65536 ^ l.length
  | [], _ => by simp [dv]
  | d :: l, h => by
    have ih := dv_lt l h.tail
    have h0 := h 0 (by simp)
    simp only [List.getElem_cons_zero] at h0
    rw [dv, List.length_cons, Nat.pow_succ]
    omega
theorem dv_app : ∀ (a b : List Nat), dv (a ++ b) = dv a + 65536 ^ a.length * dv b
  | [], b => by simp [dv]
  | d :: a, b => by
    rw [List.cons_append, dv, dv, dv_app a b, List.length_cons, Nat.pow_succ]
    rw [Nat.mul_add, ← Nat.mul_assoc, Nat.mul_comm 65536 (65536 ^ a.length)]
    omega
theorem dv_zeros (n : Nat) : dv (List.replicate n 0) = 0 := by
  induction n with
  | zero => rfl
  | succ n ih => rw [List.replicate_succ, dv, ih]
theorem dv_take (l : List Nat) (k : Nat) (h : k < l.length) : dv (l.take (k + 1)) = dv (l.take k) + 65536 ^ k * l[k] := by
  rw [List.take_succ_eq_append_getElem h, dv_app, List.length_take, Nat.min_eq_left (by omega)]
  simp [dv]
theorem dv_take_le (l : List Nat) (k : Nat) : dv (l.take k) ≤ dv l := by
  conv => rhs; rw [← List.take_append_drop k l, dv_app]
  omega
theorem dv_set : ∀ (l : List Nat) (i x : Nat) (h : i < l.length), dv (l.set i x) + 65536 ^ i * l[i] = dv l + 65536 ^ i * x
  | [], i, x, h => by simp at h
  | d :: l, 0, x, _ => by simp [dv]; omega
  | d :: l, i + 1, x, h => by
    have ih := dv_set l i x (by simpa using h)
    rw [List.set_cons_succ, dv, dv, List.getElem_cons_succ, Nat.pow_succ]
    have e1 : 65536 ^ i * 65536 * l[i]'(by simpa using h) = 65536 * (65536 ^ i * l[i]'(by simpa using h)) := by rw [Nat.mul_comm (65536 ^ i) 65536, Nat.mul_assoc]
    have e2 : 65536 ^ i * 65536 * x = 65536 * (65536 ^ i * x) := by rw [Nat.mul_comm (65536 ^ i) 65536, Nat.mul_assoc]
    rw [e1, e2]
    omega
theorem dv_ge (l : List Nat) (i : Nat) (h : i < l.length) : 65536 ^ i * l[i] ≤ dv l := by
  have h1 := dv_set l i 0 h
  omega
theorem Dig.set {l : List Nat} (h : Dig l) (i x : Nat) (hx : x < 65536) : Dig (l.set i x) := fun j hj => by
  rw [List.getElem_set]
  split
  · exact hx
  · exact h j (by simpa using hj)
/-- All but one of 16 bits. -/
def DigBut (l : List Nat) (m : Nat) : Prop := ∀ i (h : i < l.length), i ≠ m → l[i] < 65536
theorem DigBut.ofSet {l : List Nat} (h : Dig l) (m x : Nat) : DigBut (l.set m x) m := fun i hi hne => by
  rw [List.getElem_set, if_neg (Ne.symm hne)]
  exact h i (by simpa using hi)
theorem DigBut.dig {l : List Nat} {m : Nat} (h : DigBut l m) (hm : ∀ (h : m < l.length), l[m] < 65536) : Dig l := fun i hi => by
  by_cases hi2 : i = m
  · subst hi2; exact hm hi
  · exact h i hi hi2
/-- What is too much goes up. -/
def carry (l : List Nat) (m : Nat) : List Nat := (l.set (m + 1) (l.getD (m + 1) 0 + l.getD m 0 / 65536)).set m (l.getD m 0 % 65536)
theorem carry_length (l : List Nat) (m : Nat) : (carry l m).length = l.length := by simp [carry]
theorem carry_dv (l : List Nat) (m : Nat) (h : m + 1 < l.length) : dv (carry l m) = dv l := by
  unfold carry
  have e1 : l.getD (m + 1) 0 = l[m + 1] := by simp [List.getD, h]
  have e2 : l.getD m 0 = l[m]'(by omega) := by simp [List.getD, show m < l.length by omega]
  rw [e1, e2]
  have h1 := dv_set l (m + 1) (l[m + 1] + l[m]'(by omega) / 65536) h
  have h2 := dv_set (l.set (m + 1) (l[m + 1] + l[m]'(by omega) / 65536)) m (l[m]'(by omega) % 65536) (by rw [List.length_set]; omega)
  rw [List.getElem_set_ne (by omega)] at h2
  rw [Nat.mul_add] at h1
  have e3 : 65536 ^ (m + 1) * (l[m]'(by omega) / 65536) + 65536 ^ m * (l[m]'(by omega) % 65536) = 65536 ^ m * l[m]'(by omega) := by
    rw [Nat.pow_succ, Nat.mul_assoc, ← Nat.mul_add]
    congr 1
    omega
  omega
theorem carry_but (l : List Nat) (m : Nat) (h : DigBut l m) : DigBut (carry l m) (m + 1) := fun i hi hne => by
  have hl : i < l.length := by rw [carry_length] at hi; exact hi
  simp only [carry, List.getElem_set]
  split
  · exact Nat.mod_lt _ (by omega)
  · rename_i h1
    rw [if_neg (Ne.symm hne)]
    exact h i hl (Ne.symm h1)
theorem carry_at (l : List Nat) (m : Nat) (h : m + 1 < l.length) : (carry l m).getD (m + 1) 0 = l.getD (m + 1) 0 + l.getD m 0 / 65536 := by
  unfold carry
  simp [List.getD, h]
/-- Rows of one length, compared from the top. -/
theorem dv_cmp : ∀ (a b : List Nat), a.length = b.length → Dig a → Dig b → ∀ k (h1 : k < a.length) (h2 : k < b.length), (∀ j (h1 : j < a.length) (h2 : j < b.length), k < j → a[j] = b[j]) → a[k] ≠ b[k] → (decide (dv b < dv a) = decide (b[k] < a[k])) := by
  intro a b hl ha hb k h1 h2 htop hne
  have sa : dv a = dv (a.take k) + 65536 ^ k * (a[k] + 65536 * dv (a.drop (k + 1))) := by
    conv => lhs; rw [← List.take_append_drop k a, dv_app, List.length_take, Nat.min_eq_left (by omega), List.drop_eq_getElem_cons h1, dv]
  have sb : dv b = dv (b.take k) + 65536 ^ k * (b[k] + 65536 * dv (b.drop (k + 1))) := by
    conv => lhs; rw [← List.take_append_drop k b, dv_app, List.length_take, Nat.min_eq_left (by omega), List.drop_eq_getElem_cons h2, dv]
  have hd : a.drop (k + 1) = b.drop (k + 1) := by
    refine List.ext_getElem (by simp [hl]) (fun i q1 q2 => ?_)
    rw [List.getElem_drop, List.getElem_drop]
    exact htop _ _ _ (by omega)
  have la : dv (a.take k) < 65536 ^ k := by
    have := dv_lt (a.take k) (fun i hi => by rw [List.getElem_take]; exact ha i (by simp at hi; omega))
    rwa [List.length_take, Nat.min_eq_left (by omega)] at this
  have lb : dv (b.take k) < 65536 ^ k := by
    have := dv_lt (b.take k) (fun i hi => by rw [List.getElem_take]; exact hb i (by simp at hi; omega))
    rwa [List.length_take, Nat.min_eq_left (by omega)] at this
  rw [sa, sb, hd]
  generalize dv (b.drop (k + 1)) = t
  generalize dv (a.take k) = p at *
  generalize dv (b.take k) = q at *
  generalize a[k] = x at *
  generalize b[k] = y at *
  generalize 65536 ^ k = P at *
  rw [Nat.mul_add, Nat.mul_add]
  congr 1
  apply propext
  constructor
  · intro h
    rcases Nat.lt_or_ge y x with h3 | h3
    · exact h3
    · have h4 : x + 1 ≤ y := by omega
      have h5 : P * (x + 1) ≤ P * y := Nat.mul_le_mul_left P h4
      rw [Nat.mul_add, Nat.mul_one] at h5
      omega
  · intro h3
    have h5 : P * (y + 1) ≤ P * x := Nat.mul_le_mul_left P h3
    rw [Nat.mul_add, Nat.mul_one] at h5
    omega
theorem dv_eq {a b : List Nat} (h : a = b) : decide (dv b < dv a) = false := by rw [h]; simp
/-- A number's row. -/
def rowL (v : Nat) : List Nat := [v % 65536, v / 65536 % 65536, v / 65536 / 65536 % 65536, v / 65536 / 65536 / 65536]
theorem rowL_dv (v : Nat) : dv (rowL v) = v := by simp only [rowL, dv]; omega
theorem rowL_dig (v : Nat) (h : v < 18446744073709551616) : Dig (rowL v) := by
  intro i hi
  have : i = 0 ∨ i = 1 ∨ i = 2 ∨ i = 3 := by simp [rowL] at hi; omega
  rcases this with rfl | rfl | rfl | rfl <;> simp [rowL] <;> omega
end Go.Proofs.Ytkcpblfdmfkppaa
