/- ops: what is decoded is encoded as it was, plain. No program in sight. -/
import Derived.Test.YtfhajbfgdbcpeaaOpsFn7
namespace Go.Proofs.Ytfhajbfgdbcpeaa
open Go.RowKit
theorem putB_mod (x n : Nat) : putB (x % 256 ^ n) n = putB x n := by
  have h := put_get (putB x n)
  rw [get_put, putB_length] at h
  exact h
theorem putB_same {x y n : Nat} (h : x % 256 ^ n = y % 256 ^ n) : putB x n = putB y n := by
  rw [← putB_mod x n, h, putB_mod]
/-- What stands behind an operation. -/
theorem tell_eq (bs : List UInt8) (p f : Nat) (hf : 2 ≤ sizeN f) (h3 : sizeN f ≤ 3) (h : p + sizeN f ≤ bs.length) : tellV bs p f = ((getN ((bs.drop (p + 1)).take (sizeN f - 1)) : Nat) : Int) := by
  unfold tellV
  have hm : max (sizeN f - 1) 1 = sizeN f - 1 := by omega
  rw [hm]
  unfold getR
  rw [if_neg (by omega), if_neg (by omega)]
  simp only
  rw [show ((p : Int) + 1).toNat = p + 1 by omega, Int.toNat_natCast]
theorem rest_len (bs : List UInt8) (p s : Nat) (h : p + s ≤ bs.length) : ((bs.drop (p + 1)).take (s - 1)).length = s - 1 := by
  simp; omega
theorem take_op (bs : List UInt8) (p s : Nat) (hs : 1 ≤ s) (h : p + s ≤ bs.length) : (bs.drop p).take s = [UInt8.ofNat (opAt bs p)] ++ (bs.drop (p + 1)).take (s - 1) := by
  have hp : p < bs.length := by omega
  have e : UInt8.ofNat (opAt bs p) = bs[p] := by
    unfold opAt
    simp [List.getD, hp]
  obtain ⟨k, rfl⟩ : ∃ k, s = k + 1 := ⟨s - 1, by omega⟩
  rw [e, List.drop_eq_getElem_cons hp, List.take_succ_cons]
  rfl
theorem enc_raw (bs : List UInt8) (p : Nat) (h0 : formN (opAt bs p) ≠ 0) (h : p + sizeN (formN (opAt bs p)) ≤ bs.length) : encOne (rawAt bs p) = (bs.drop p).take (sizeN (formN (opAt bs p))) := by
  have h9 := formN_le (opAt bs p)
  have h1 := sizeN_pos h0 h9
  rw [take_op bs p _ h1 h]
  have hte := tell_eq bs p (formN (opAt bs p))
  have hrl := rest_len bs p (sizeN (formN (opAt bs p))) h
  have hpg := put_get ((bs.drop (p + 1)).take (sizeN (formN (opAt bs p)) - 1))
  have hgl := getN_lt ((bs.drop (p + 1)).take (sizeN (formN (opAt bs p)) - 1))
  rw [hrl] at hpg hgl
  have hs3 := sizeN_le (formN (opAt bs p))
  unfold rawAt encOne
  simp only
  generalize formN (opAt bs p) = f at *
  generalize (bs.drop (p + 1)).take (sizeN f - 1) = cs at *
  generalize getN cs = v at *
  have hfc : f = 1 ∨ f = 2 ∨ f = 3 ∨ f = 4 ∨ f = 5 ∨ f = 6 ∨ f = 7 ∨ f = 8 ∨ f = 9 := by omega
  rw [show (UInt8.ofNat (opAt bs p) :: (if f = 7 then putB (u64N (readA bs p f - p)) 2 else if f = 8 then putB (u64N (readA bs p f)) 1 ++ putB (u64N (readB bs p f)) 1 else putB (u64N (readA bs p f)) (sizeN f - 1))) = [UInt8.ofNat (opAt bs p)] ++ (if f = 7 then putB (u64N (readA bs p f - p)) 2 else if f = 8 then putB (u64N (readA bs p f)) 1 ++ putB (u64N (readB bs p f)) 1 else putB (u64N (readA bs p f)) (sizeN f - 1)) from rfl]
  congr 1
  unfold readA readB
  rcases hfc with rfl | rfl | rfl | rfl | rfl | rfl | rfl | rfl | rfl
  · rw [← hpg]; rfl
  all_goals
    have hv := hte (by decide) (by decide) h
    first
      | (rw [show sizeN 2 = 2 from rfl] at hpg hgl ⊢)
      | (rw [show sizeN 3 = 2 from rfl] at hpg hgl ⊢)
      | (rw [show sizeN 4 = 3 from rfl] at hpg hgl ⊢)
      | (rw [show sizeN 5 = 2 from rfl] at hpg hgl ⊢)
      | (rw [show sizeN 6 = 3 from rfl] at hpg hgl ⊢)
      | (rw [show sizeN 7 = 3 from rfl] at hpg hgl ⊢)
      | (rw [show sizeN 8 = 3 from rfl] at hpg hgl ⊢)
      | (rw [show sizeN 9 = 2 from rfl] at hpg hgl ⊢)
    rw [hv]
    clear hte hv hs3
  · simp only [Nat.reduceSub, Nat.reducePow, reduceIte, Nat.reduceEqDiff] at hpg hgl ⊢
    rw [← hpg]; exact putB_same (by unfold u64N; omega)
  · simp only [Nat.reduceSub, Nat.reducePow, reduceIte, Nat.reduceEqDiff] at hpg hgl ⊢
    rw [← hpg, show signB (v : Int) 1 = ((v : Int) + 128) % 256 - 128 from rfl]; exact putB_same (by unfold u64N; omega)
  · simp only [Nat.reduceSub, Nat.reducePow, reduceIte, Nat.reduceEqDiff] at hpg hgl ⊢
    rw [← hpg, show signB (v : Int) 2 = ((v : Int) + 32768) % 65536 - 32768 from rfl]; exact putB_same (by unfold u64N; omega)
  · simp only [Nat.reduceSub, Nat.reducePow, reduceIte, Nat.reduceEqDiff] at hpg hgl ⊢
    rw [← hpg]; exact putB_same (by unfold u64N; omega)
  · simp only [Nat.reduceSub, Nat.reducePow, reduceIte, Nat.reduceEqDiff] at hpg hgl ⊢
    rw [← hpg]; exact putB_same (by unfold u64N; omega)
  · simp only [Nat.reduceSub, Nat.reducePow, reduceIte, Nat.reduceEqDiff] at hpg hgl ⊢
    rw [← hpg, show signB (v : Int) 2 = ((v : Int) + 32768) % 65536 - 32768 from rfl]; exact putB_same (by unfold u64N; omega)
  · simp only [Nat.reduceSub, Nat.reducePow, reduceIte, Nat.reduceEqDiff] at hpg hgl ⊢
    rw [← hpg, show signB (v : Int) 1 = ((v : Int) + 128) % 256 - 128 from rfl, putB_succ v 1]
    congr 1
    · exact putB_same (by unfold u64N; omega)
    · rw [putB_succ _ 0]
      simp [putB]
      congr 1
      unfold u64N; omega
  · simp only [Nat.reduceSub, Nat.reducePow, reduceIte, Nat.reduceEqDiff] at hpg hgl ⊢
    rw [← hpg]; exact putB_same (by unfold u64N; omega)
end Go.Proofs.Ytfhajbfgdbcpeaa
