/- ops: Decode, plain: one step, bounds. No program in sight. -/
import Derived.Test.YtfhajbfgdbcpeaaOpsFn4
namespace Go.Proofs.Ytfhajbfgdbcpeaa
open Go.ChangeShapes Go.WideShapes Go.ChangeAt Go.RowKit
theorem opAt_lt (bs : List UInt8) (p : Nat) : opAt bs p < 256 := (bs.getD p 0).toNat_lt
theorem sizeN_pos {f : Nat} (h0 : f ≠ 0) (h9 : f ≤ 9) : 1 ≤ sizeN f := by
  match f, h0, h9 with
  | 1, _, _ | 2, _, _ | 3, _, _ | 4, _, _ | 5, _, _ | 6, _, _ | 7, _, _ | 8, _, _ | 9, _, _ => decide
  | n + 10, _, h => omega
theorem tellV_small (bs : List UInt8) (p f : Nat) : 0 ≤ tellV bs p f ∧ tellV bs p f < 65536 := by
  have h1 := getR_bound bs ((p : Int) + 1) ((max (sizeN f - 1) 1 : Nat) : Int)
  have h2 := getR_small bs ((p : Int) + 1) ((max (sizeN f - 1) 1 : Nat) : Int) 2 (by have := sizeN_le f; omega) (by decide)
  unfold tellV
  refine ⟨h1.1, ?_⟩
  rw [show ((256 ^ 2 : Nat) : Int) = 65536 from rfl] at h2
  exact h2
theorem readA_small (bs : List UInt8) (p f : Nat) : -32768 ≤ readA bs p f ∧ readA bs p f ≤ (p : Int) + 65536 := by
  have h := tellV_small bs p f
  unfold readA
  generalize tellV bs p f = v at *
  have h1 := signB_1 v
  have h2 := signB_2 v
  simp only
  split
  · omega
  split
  · omega
  split
  · omega
  split
  · omega
  split
  · omega
  · omega
theorem intRo_of {n : Int} (h : -9223372036854775808 ≤ n ∧ n ≤ 9223372036854775807) : IntRo n := by
  unfold IntRo Lit.wf
  simp only [Bool.and_eq_true, decide_eq_true_eq]
  exact h
theorem rawAt_wf (bs : List UInt8) (p : Nat) (hp : p ≤ 1048576) : IntRo (rawAt bs p).pos ∧ IntRo (rawAt bs p).a ∧ (rawAt bs p).op < 256 := by
  have h := readA_small bs p (formN (opAt bs p))
  exact ⟨intRo_of (by unfold rawAt; simp only; omega), intRo_of (by unfold rawAt; simp only; omega), opAt_lt bs p⟩
theorem decF_end (bs : List UInt8) (fuel p : Nat) (acc : List RW) (h : bs.length ≤ p) : decF bs fuel p acc = (0, acc) := by
  cases fuel
  · rfl
  · unfold decF; rw [if_pos h]
theorem decF_none (bs : List UInt8) (fuel p : Nat) (acc : List RW) (h : p < bs.length) (h0 : formN (opAt bs p) = 0) : decF bs (fuel + 1) p acc = (8, []) := by
  rw [decF, if_neg (by omega), if_pos h0]
theorem decF_short (bs : List UInt8) (fuel p : Nat) (acc : List RW) (h : p < bs.length) (h0 : formN (opAt bs p) ≠ 0) (h1 : bs.length - p < sizeN (formN (opAt bs p))) : decF bs (fuel + 1) p acc = (6, []) := by
  rw [decF, if_neg (by omega), if_neg h0, if_pos h1]
theorem decF_bad (bs : List UInt8) (fuel p : Nat) (acc : List RW) (h : p < bs.length) (h0 : formN (opAt bs p) ≠ 0) (h1 : ¬ bs.length - p < sizeN (formN (opAt bs p))) (h2 : readBad bs p (formN (opAt bs p)) = true) : decF bs (fuel + 1) p acc = (8, []) := by
  rw [decF, if_neg (by omega), if_neg h0, if_neg h1, if_pos h2]
theorem decF_next (bs : List UInt8) (fuel p : Nat) (acc : List RW) (h : p < bs.length) (h0 : formN (opAt bs p) ≠ 0) (h1 : ¬ bs.length - p < sizeN (formN (opAt bs p))) (h2 : readBad bs p (formN (opAt bs p)) = false) :
    decF bs (fuel + 1) p acc = decF bs fuel (p + sizeN (formN (opAt bs p))) (acc ++ [rawAt bs p]) := by
  rw [decF, if_neg (by omega), if_neg h0, if_neg h1, if_neg (by rw [h2]; decide)]
theorem decode_long {bs : List UInt8} (h : 4096 < bs.length) : decodeR bs = (9, []) := by unfold decodeR; rw [if_pos h]
theorem decode_err {bs : List UInt8} {e : Int} (h : ¬ 4096 < bs.length) (hd : decF bs (bs.length + 1) 0 [] = (e, [])) (he : e ≠ 0) : decodeR bs = (e, []) := by
  unfold decodeR; rw [if_neg h, hd, if_pos he]
theorem decode_range {bs : List UInt8} {l : List RW} (h : ¬ 4096 < bs.length) (hd : decF bs (bs.length + 1) 0 [] = (0, l)) (hg : goesB l = false) : decodeR bs = (2, []) := by
  unfold decodeR; rw [if_neg h, hd, if_neg (by simp), if_neg (by simp [hg])]
theorem decode_ok {bs : List UInt8} {l : List RW} (h : ¬ 4096 < bs.length) (hd : decF bs (bs.length + 1) 0 [] = (0, l)) (hg : goesB l = true) : decodeR bs = (0, l) := by
  unfold decodeR; rw [if_neg h, hd, if_neg (by simp), if_pos hg]
end Go.Proofs.Ytfhajbfgdbcpeaa
