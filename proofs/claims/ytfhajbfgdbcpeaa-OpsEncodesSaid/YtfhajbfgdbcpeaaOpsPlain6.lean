/- ops: what is decoded is encoded as it was, plain: whole codes. No program in sight. -/
import Derived.Test.YtfhajbfgdbcpeaaOpsPlain5
namespace Go.Proofs.Ytfhajbfgdbcpeaa
open Go.RowKit
theorem tell_one (bs : List UInt8) (p f : Nat) (hs : sizeN f ≤ 2) : tellV bs p f < 256 := by
  have h := getR_small bs ((p : Int) + 1) ((max (sizeN f - 1) 1 : Nat) : Int) 1 (by omega) (by decide)
  rw [show ((256 ^ 1 : Nat) : Int) = 256 from rfl] at h
  exact h
theorem fits_raw (bs : List UInt8) (p : Nat) (h0 : formN (opAt bs p) ≠ 0) (hb : readBad bs p (formN (opAt bs p)) = false) : fitsB (rawAt bs p) (formN (opAt bs p)) = true := by
  have h9 := formN_le (opAt bs p)
  have hv := tellV_small bs p (formN (opAt bs p))
  have h1 := tell_one bs p (formN (opAt bs p))
  unfold rawAt fitsB
  simp only
  generalize formN (opAt bs p) = f at *
  have hfc : f = 1 ∨ f = 2 ∨ f = 3 ∨ f = 4 ∨ f = 5 ∨ f = 6 ∨ f = 7 ∨ f = 8 ∨ f = 9 := by omega
  unfold readBad at hb
  unfold readA at hb ⊢
  unfold readB
  rcases hfc with rfl | rfl | rfl | rfl | rfl | rfl | rfl | rfl | rfl
  · simp
  · have h2 := h1 (by decide)
    simp; omega
  · have h2 := signB_1 (tellV bs p 3)
    simp; omega
  · have h2 := signB_2 (tellV bs p 4)
    simp; omega
  · have h2 := h1 (by decide)
    simp; omega
  · simp; omega
  · simp
  · have h2 := signB_1 (tellV bs p 8)
    simp; omega
  · simp at hb ⊢
    by_cases h8 : tellV bs p 9 = 8
    · exact .inl h8
    · exact .inr (hb h8)
theorem goodAt_snoc (l : List RW) (r : RW) (k : Nat) (h : k < l.length) : goodAt (l ++ [r]) k = goodAt l k := by
  unfold goodAt
  rw [List.getElem?_append_left h, List.take_append_of_le_length (by omega)]
theorem decF_enc (bs : List UInt8) : ∀ (fuel p : Nat) (acc l : List RW), bs.length < fuel + p → p ≤ bs.length → encL acc = bs.take p → (∀ k, k < acc.length → goodAt acc k = true) → decF bs fuel p acc = (0, l) → encL l = bs ∧ ∀ k, k < l.length → goodAt l k = true := by
  intro fuel
  induction fuel with
  | zero => intro p acc l h1 h2; omega
  | succ fuel ih =>
    intro p acc l h1 h2 he hg hd
    by_cases hp : bs.length ≤ p
    · rw [decF_end bs _ p acc hp] at hd
      cases hd
      exact ⟨by rw [he, List.take_of_length_le hp], hg⟩
    · have hpl : p < bs.length := by omega
      by_cases h0 : formN (opAt bs p) = 0
      · rw [decF_none bs fuel p acc hpl h0] at hd; cases hd
      by_cases hs : bs.length - p < sizeN (formN (opAt bs p))
      · rw [decF_short bs fuel p acc hpl h0 hs] at hd; cases hd
      cases hb : readBad bs p (formN (opAt bs p))
      · rw [decF_next bs fuel p acc hpl h0 hs hb] at hd
        have hsp := sizeN_pos h0 (formN_le (opAt bs p))
        refine ih _ _ _ (by omega) (by omega) ?_ (fun k hk => ?_) hd
        · unfold encL at he ⊢
          rw [List.flatMap_append, he]
          simp only [List.flatMap_cons, List.flatMap_nil, List.append_nil]
          rw [enc_raw bs p h0 (by omega), ← List.take_add]
        · by_cases hk2 : k < acc.length
          · rw [goodAt_snoc _ _ _ hk2]; exact hg k hk2
          · have hke : k = acc.length := by simp at hk; omega
            subst hke
            rw [goodAt_eq (acc ++ [rawAt bs p]) acc.length (rawAt bs p) (by simp), List.take_left, he]
            have h3 := fits_raw bs p h0 hb
            have h4 : (rawAt bs p).op = opAt bs p := rfl
            rw [h4, h3]
            unfold rawAt
            simp; omega
      · rw [decF_bad bs fuel p acc hpl h0 hs hb] at hd; cases hd
theorem encode_decode (bs : List UInt8) (l : List RW) (h : decodeR bs = (0, l)) : encodeR l = (0, bs) := by
  unfold decodeR at h
  by_cases h4 : 4096 < bs.length
  · rw [if_pos h4] at h; cases h
  rw [if_neg h4] at h
  by_cases he : (decF bs (bs.length + 1) 0 []).1 ≠ 0
  · rw [if_pos he] at h
    simp only [Prod.mk.injEq] at h
    exact absurd h.1 he
  rw [if_neg he] at h
  cases hg : goesB (decF bs (bs.length + 1) 0 []).2
  · rw [hg, if_neg (by decide)] at h; cases h
  rw [hg, if_pos rfl] at h
  simp only [Prod.mk.injEq, true_and] at h
  have hd : decF bs (bs.length + 1) 0 [] = (0, l) := by
    rw [← h]
    have : (decF bs (bs.length + 1) 0 []).1 = 0 := by simpa using he
    exact Prod.ext this rfl
  obtain ⟨h5, h6⟩ := decF_enc bs (bs.length + 1) 0 [] l (by omega) (by omega) rfl (fun k hk => by simp at hk) hd
  rw [encode_ok h6 (by rw [← h]; exact hg) (by rw [h5]; exact h4), h5]
theorem decF_len (bs : List UInt8) : ∀ (fuel p : Nat) (acc : List RW), acc.length ≤ p → p ≤ bs.length → (decF bs fuel p acc).2.length ≤ bs.length := by
  intro fuel
  induction fuel with
  | zero => intro p acc h1 h2; show acc.length ≤ _; omega
  | succ fuel ih =>
    intro p acc h1 h2
    by_cases hp : bs.length ≤ p
    · rw [decF_end bs _ p acc hp]; show acc.length ≤ _; omega
    · have hpl : p < bs.length := by omega
      by_cases h0 : formN (opAt bs p) = 0
      · rw [decF_none bs fuel p acc hpl h0]; exact Nat.zero_le _
      by_cases hs : bs.length - p < sizeN (formN (opAt bs p))
      · rw [decF_short bs fuel p acc hpl h0 hs]; exact Nat.zero_le _
      cases hb : readBad bs p (formN (opAt bs p))
      · rw [decF_next bs fuel p acc hpl h0 hs hb]
        have hsp := sizeN_pos h0 (formN_le (opAt bs p))
        exact ih _ _ (by simp; omega) (by omega)
      · rw [decF_bad bs fuel p acc hpl h0 hs hb]; exact Nat.zero_le _
theorem decode_len (bs : List UInt8) : (decodeR bs).2.length ≤ bs.length := by
  unfold decodeR
  by_cases h4 : 4096 < bs.length
  · rw [if_pos h4]; exact Nat.zero_le _
  rw [if_neg h4]
  by_cases he : (decF bs (bs.length + 1) 0 []).1 ≠ 0
  · rw [if_pos he]; exact Nat.zero_le _
  rw [if_neg he]
  by_cases hg : goesB (decF bs (bs.length + 1) 0 []).2 = true
  · rw [if_pos hg]; exact decF_len bs _ 0 [] (Nat.zero_le _) (Nat.zero_le _)
  · rw [if_neg hg]; exact Nat.zero_le _
end Go.Proofs.Ytfhajbfgdbcpeaa
