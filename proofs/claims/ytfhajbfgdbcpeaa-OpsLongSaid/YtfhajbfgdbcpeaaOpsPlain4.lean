/- ops: code of nops, plain. No program in sight. -/
import Derived.Test.YtfhajbfgdbcpeaaOpsFn7
namespace Go.Proofs.Ytfhajbfgdbcpeaa
open Go.RowKit
def nopR (i : Nat) : RW := ⟨i, 0, 0, 0⟩
def nopsL (n : Nat) : List RW := (List.range n).map nopR
theorem nopsL_length (n : Nat) : (nopsL n).length = n := by simp [nopsL]
theorem nopsL_succ (n : Nat) : nopsL (n + 1) = nopsL n ++ [nopR n] := by simp [nopsL, List.range_succ]
theorem nopsL_take (n k : Nat) (h : k ≤ n) : (nopsL n).take k = nopsL k := by
  unfold nopsL
  rw [← List.map_take, List.take_range, Nat.min_eq_left h]
theorem encOne_nop (i : Nat) : encOne (nopR i) = [0] := by
  unfold encOne nopR
  simp only
  rw [show formN 0 = 1 from rfl]
  rfl
theorem encL_nops (n : Nat) : (encL (nopsL n)).length = n := by
  induction n with
  | zero => rfl
  | succ n ih =>
    unfold encL at ih ⊢
    rw [nopsL_succ, List.flatMap_append, List.length_append, ih]
    simp [encOne_nop]
theorem good_nops (n k : Nat) (h : k < n) : goodAt (nopsL n) k = true := by
  have hk : (nopsL n)[k]? = some (nopR k) := by simp [nopsL, h]
  rw [goodAt_eq _ _ _ hk, nopsL_take n k (by omega), encL_nops]
  unfold nopR
  simp only
  rw [show formN 0 = 1 from rfl]
  unfold fitsB
  simp
theorem goes_nops (l : List RW) (h : ∀ r ∈ l, r.op = 0) : goesB l = true := by
  unfold goesB
  rw [List.all_eq_true]
  intro r hr
  rw [h r hr, show formN 0 = 1 from rfl]
  rfl
theorem nops_op (n : Nat) : ∀ r ∈ nopsL n, r.op = 0 := by
  intro r hr
  unfold nopsL at hr
  obtain ⟨i, _, rfl⟩ := List.mem_map.1 hr
  rfl
theorem encode_nops (n : Nat) : encodeR (nopsL n) = if 4096 < n then (9, []) else (0, encL (nopsL n)) := by
  have h := fun k (hk : k < (nopsL n).length) => good_nops n k (by rw [nopsL_length] at hk; exact hk)
  by_cases hn : 4096 < n
  · rw [if_pos hn]; exact encode_long h (goes_nops _ (nops_op n)) (by rw [encL_nops]; exact hn)
  · rw [if_neg hn]; exact encode_ok h (goes_nops _ (nops_op n)) (by rw [encL_nops]; exact hn)
theorem opAt_zero (n p : Nat) : opAt (List.replicate n 0) p = 0 := by
  unfold opAt
  by_cases h : p < n
  · simp [List.getD, h]
  · simp [List.getD, h]
theorem decF_nops (n : Nat) (fuel p : Nat) (acc : List RW) (h : ∀ r ∈ acc, r.op = 0) : ∃ l, decF (List.replicate n 0) fuel p acc = (0, l) ∧ ∀ r ∈ l, r.op = 0 := by
  induction fuel generalizing p acc with
  | zero => exact ⟨acc, rfl, h⟩
  | succ fuel ih =>
    by_cases hp : (List.replicate n (0 : UInt8)).length ≤ p
    · exact ⟨acc, decF_end _ _ _ _ hp, h⟩
    · have hp' : p < (List.replicate n (0 : UInt8)).length := by omega
      have hf : formN (opAt (List.replicate n 0) p) = 1 := by rw [opAt_zero]; rfl
      have h1 := decF_next (List.replicate n 0) fuel p acc hp' (by rw [hf]; decide) (by rw [hf, show sizeN 1 = 1 from rfl]; omega) (by rw [hf]; rfl)
      rw [h1]
      refine ih _ _ (fun r hr => ?_)
      rcases List.mem_append.1 hr with hr | hr
      · exact h r hr
      · rw [List.mem_singleton.1 hr]; exact opAt_zero n p
theorem decode_nops (n : Nat) : (decodeR (List.replicate n 0)).1 = if 4096 < n then 9 else 0 := by
  by_cases hn : 4096 < n
  · rw [if_pos hn, decode_long (by simpa using hn)]
  · rw [if_neg hn]
    obtain ⟨l, hl, ho⟩ := decF_nops n ((List.replicate n (0 : UInt8)).length + 1) 0 [] (fun r hr => by cases hr)
    rw [decode_ok (by simpa using hn) hl (goes_nops l ho)]
end Go.Proofs.Ytfhajbfgdbcpeaa
