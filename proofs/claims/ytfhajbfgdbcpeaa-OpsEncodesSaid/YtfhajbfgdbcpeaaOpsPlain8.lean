/- ops: what is encoded is decoded as it was: the whole. No program in sight. -/
import Derived.Test.YtfhajbfgdbcpeaaOpsPlain7
namespace Go.Proofs.Ytfhajbfgdbcpeaa
open Go.RowKit
theorem good_split {l pre suf : List RW} {r : RW} (h : l = pre ++ r :: suf) (hg : goodAt l pre.length = true) : fitsB r (formN r.op) = true ∧ r.pos = ((encL pre).length : Nat) := by
  subst h
  unfold goodAt at hg
  rw [List.getElem?_append_right (Nat.le_refl _)] at hg
  simp only [Nat.sub_self, List.getElem?_cons_zero, List.take_left, Bool.and_eq_true, decide_eq_true_eq] at hg
  exact hg
theorem encL_split (pre suf : List RW) : encL (pre ++ suf) = encL pre ++ encL suf := by unfold encL; rw [List.flatMap_append]
theorem good_pos {l : List RW} (hg : ∀ k, k < l.length → goodAt l k = true) (hl : (encL l).length ≤ 4096) : ∀ r ∈ l, 0 ≤ r.pos ∧ r.pos ≤ 4096 := by
  intro r hr
  obtain ⟨pre, suf, h⟩ := List.append_of_mem hr
  have h1 := (good_split h (hg pre.length (by rw [h]; simp))).2
  rw [h, encL_split, List.length_append] at hl
  omega
theorem goes_near {l : List RW} (hg : ∀ k, k < l.length → goodAt l k = true) (hl : (encL l).length ≤ 4096) (hgo : goesB l = true) : ∀ r ∈ l, formN r.op = 7 → -32768 ≤ r.a - r.pos ∧ r.a - r.pos ≤ 32767 := by
  intro r hr h7
  have h1 := good_pos hg hl r hr
  unfold goesB at hgo
  have h2 := List.all_eq_true.1 hgo r hr
  rw [h7] at h2
  simp only [beq_self_eq_true, Bool.not_true, Bool.false_or] at h2
  unfold thereB at h2
  obtain ⟨s, hs, h3⟩ := List.any_eq_true.1 h2
  have h4 := good_pos hg hl s hs
  have h5 : s.pos = r.a := by simpa using h3
  omega
theorem fits_none (r : RW) : fitsB r 0 = false := by unfold fitsB; simp
theorem decF_of {l : List RW} (hl : (encL l).length ≤ 4096) (hw : ∀ r ∈ l, r.op < 256) (hg : ∀ k, k < l.length → goodAt l k = true) (hgo : goesB l = true) :
    ∀ (suf pre : List RW), l = pre ++ suf → ∀ fuel, suf.length ≤ fuel → decF (encL l) fuel (encL pre).length pre = (0, l) := by
  intro suf
  induction suf with
  | nil =>
    intro pre h fuel _
    rw [List.append_nil] at h
    subst h
    exact decF_end _ _ _ _ (Nat.le_refl _)
  | cons r suf ih =>
    intro pre h fuel hf
    obtain ⟨fuel, rfl⟩ : ∃ k, fuel = k + 1 := ⟨fuel - 1, by simp at hf; omega⟩
    have hr : r ∈ l := by rw [h]; simp
    obtain ⟨h1, h2⟩ := good_split h (hg pre.length (by rw [h]; simp))
    have h0 : formN r.op ≠ 0 := fun h0 => by rw [h0, fits_none] at h1; cases h1
    have hd : (encL l).drop (encL pre).length = encOne r ++ encL suf := by
      rw [h, encL_split, List.drop_left]
      rfl
    obtain ⟨q1, q2, q3⟩ := raw_enc (encL l) r (encL pre).length (encL suf) (hw r hr) h2 h0 h1 (goes_near hg hl hgo r hr) hd
    have hlen := congrArg List.length hd
    rw [List.length_drop, List.length_append, encOne_length r h0] at hlen
    have hs := sizeN_pos h0 (formN_le r.op)
    rw [decF_next _ _ _ _ (by omega) (by rw [q3]; exact h0) (by rw [q3]; omega) (by rw [q3]; exact q2), q1, q3]
    have h3 := ih (pre ++ [r]) (by rw [h]; simp) fuel (by simp at hf; omega)
    rw [encL_split, List.length_append, show (encL [r]).length = sizeN (formN r.op) by rw [← encOne_length r h0]; simp [encL]] at h3
    exact h3
theorem encL_le (l : List RW) : l.length ≤ (encL l).length := by
  induction l with
  | nil => exact Nat.zero_le _
  | cons r l ih =>
    rw [show encL (r :: l) = encOne r ++ encL l from rfl, List.length_append]
    have : 1 ≤ (encOne r).length := by unfold encOne; simp
    simp only [List.length_cons]
    omega
/-- What is encoded is decoded as it was. -/
theorem decode_encode {l : List RW} {bs : List UInt8} (hw : ∀ r ∈ l, r.op < 256) (h : encodeR l = (0, bs)) : bs = encL l ∧ decodeR bs = (0, l) := by
  unfold encodeR at h
  by_cases h1 : (List.range l.length).all (goodAt l) = false
  · rw [if_pos h1] at h; cases h
  rw [if_neg h1] at h
  by_cases h2 : goesB l = false
  · rw [if_pos h2] at h; cases h
  rw [if_neg h2] at h
  by_cases h3 : 4096 < (encL l).length
  · rw [if_pos h3] at h; cases h
  rw [if_neg h3] at h
  cases h
  have hgo : goesB l = true := by simpa using h2
  have hg : ∀ k, k < l.length → goodAt l k = true := by
    have h4 : (List.range l.length).all (goodAt l) = true := by simpa using h1
    intro k hk
    exact List.all_eq_true.1 h4 k (List.mem_range.2 hk)
  refine ⟨rfl, decode_ok h3 ?_ hgo⟩
  have h5 := encL_le l
  exact decF_of (by omega) hw hg hgo l [] rfl _ (by omega)
end Go.Proofs.Ytfhajbfgdbcpeaa
