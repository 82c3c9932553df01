/- fetch: when a job is done. Plain. No condition. -/
import Derived.Test.YtikkkmfddhijeaaFetchLaw5
namespace Go.Proofs.Ytikkkmfddhijeaa
theorem want_full {s c : Int} {n : Nat} (h : jobOk s c n = true) (hw : (wantR s c n).2 = 0) : (n : Int) = s := by
  obtain ⟨j0, j1, j2, j3, j4⟩ := jobOk_bounds h
  by_cases hn : (n : Int) = s
  · exact hn
  · rw [wantR_yes ⟨h, hn⟩] at hw
    simp only at hw
    omega
theorem want_some {s c : Int} {n : Nat} (h : jobOk s c n = true) (hw : (wantR s c n).2 ≠ 0) : wantR s c n = ((n : Int), min c (s - n)) ∧ (n : Int) < s := by
  obtain ⟨j0, j1, j2, j3, j4⟩ := jobOk_bounds h
  by_cases hn : (n : Int) = s
  · exact absurd (by rw [wantR_no (fun x => x.2 hn)]) hw
  · exact ⟨wantR_yes ⟨h, hn⟩, by omega⟩
theorem take_part (b : List UInt8) (n : Nat) (q : Int) (h : 0 ≤ q) : b.take n ++ partL b n q = b.take (n + q.toNat) := by
  unfold partL
  rw [List.take_add]
  simp
theorem partL_length (b : List UInt8) (n : Nat) (q : Int) (h : 0 ≤ q) (h2 : (n : Int) + q ≤ b.length) : ((partL b n q).length : Int) = q := by
  unfold partL
  simp
  omega
/-- What a job of the bytes b has grown to. -/
def LiveOk (s c : Int) (lo : Int) (n : Nat) : Prop := jobOk s c n = true ∧ lo ≤ n
theorem live_step {s c : Int} {n : Nat} {b ds : List UInt8} {f sum lo : Int} (hb : (b.length : Int) = s) (h : LiveOk s c lo n) (hT : takesR s c n f ds sum = true → ds = partL b n (wantR s c n).2) :
    ∃ n', takeL (takesR s c n f ds sum) (b.take n) ds = b.take n' ∧ LiveOk s c lo n' ∧ n' ≤ b.length ∧ (takesR s c n f ds sum = true → (n' : Int) = n + (wantR s c n).2) := by
  obtain ⟨hj, hlo⟩ := h
  obtain ⟨j0, j1, j2, j3, j4⟩ := jobOk_bounds hj
  by_cases ht : takesR s c n f ds sum = true
  · have hg := takes_grows ht
    have hd := hT ht
    have hq := (of_decide_eq_true ht).1
    obtain ⟨hw, hlt⟩ := want_some hj (by omega)
    rw [hw] at hd hq
    simp only at hd hq
    have hl := partL_length b n (min c (s - n)) (by omega) (by omega)
    refine ⟨n + (min c (s - n)).toNat, ?_, ⟨?_, by omega⟩, by omega, fun _ => by rw [hw]; simp only; omega⟩
    · rw [ht]
      show b.take n ++ ds = _
      rw [hd]; exact take_part b n _ (by omega)
    · have h1 := hg.1
      rw [hd] at h1
      rw [show n + (min c (s - n)).toNat = n + (partL b (n : Int) (min c (s - n))).length by omega]
      exact h1
  · have hf : takesR s c n f ds sum = false := by simpa using ht
    refine ⟨n, ?_, ⟨hj, hlo⟩, by omega, fun h => absurd h ht⟩
    rw [hf]; rfl
theorem takes_right {s c : Int} {n : Nat} {b : List UInt8} (hb : (b.length : Int) = s) (hj : jobOk s c n = true) (hw : (wantR s c n).2 ≠ 0) :
    takesR s c n n (partL b n (wantR s c n).2) (S32 (partL b n (wantR s c n).2)) = true := by
  obtain ⟨j0, j1, j2, j3, j4⟩ := jobOk_bounds hj
  obtain ⟨he, hlt⟩ := want_some hj hw
  refine decide_eq_true ?_
  rw [he]
  simp only
  exact ⟨by omega, trivial, partL_length b n _ (by omega) (by omega), trivial⟩
theorem chunks_all {s c : Int} (hj : jobOk s c 0 = true) : 0 ≤ chunksR s c 0 ∧ chunksR s c 0 ≤ 65536 ∧ s ≤ chunksR s c 0 * c := by
  obtain ⟨j0, j1, j2, j3, j4⟩ := jobOk_bounds hj
  unfold chunksR
  rw [if_pos hj, Int.tdiv_eq_ediv_of_nonneg (by omega)]
  have h1 := Int.emod_def (s + c - 1) c
  have h2 := Int.emod_lt_of_pos (s + c - 1) (show 0 < c by omega)
  have h5 := Int.emod_nonneg (s + c - 1) (show c ≠ 0 by omega)
  have h3 : (s + c - 1) / c ≤ s + c - 1 := Int.ediv_le_self _ (by omega)
  have h0 : 0 ≤ (s + c - 1) / c := Int.ediv_nonneg (by omega) (by omega)
  rw [Int.mul_comm] at h1
  refine ⟨h0, ?_, by omega⟩
  by_cases hc : c = 1
  · subst hc; omega
  · have : (s + c - 1) / c * 2 ≤ (s + c - 1) / c * c := Int.mul_le_mul_of_nonneg_left (by omega) h0
    generalize (s + c - 1) / c * c = d at *
    generalize (s + c - 1) % c = e at *
    have hd : d ≤ 66559 := by omega
    generalize (s + c - 1) / c = q at *
    omega
theorem round_low {i c s : Int} {n n' : Nat} (hn : min (i * c) s ≤ n) (hq : (n' : Int) = n + min c (s - n)) (hlt : (n : Int) < s) (hc : 1 ≤ c) (hi : 0 ≤ i) : min ((i + 1) * c) s ≤ n' := by
  rw [Int.add_mul, Int.one_mul]
  omega
end Go.Proofs.Ytikkkmfddhijeaa
