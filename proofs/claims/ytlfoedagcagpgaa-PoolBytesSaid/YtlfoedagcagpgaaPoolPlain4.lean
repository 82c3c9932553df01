/- pool: what is written is read as it was: whole pools. No program in sight. -/
import Derived.Test.YtlfoedagcagpgaaPoolPlain3
namespace Go.Proofs.Ytlfoedagcagpgaa
open Go.RowKit
theorem kAt_get (L : List KV) (k : Nat) (h : k < L.length) : kAt L (k : Int) = L[k] := by
  unfold kAt; simp [List.getD, h]
theorem bare_parts {c : KV} (h : bareOk c = true) : (c.tag = 1 ∨ c.s = []) ∧ ((c.tag = 5 ∨ c.n = 0) ∨ (c.tag = 3 ∧ -2147483648 ≤ c.n ∧ c.n ≤ 2147483647)) ∧ ((c.tag = 9 ∨ c.tag = 10 ∨ c.tag = 12) ∨ c.b = 0) ∧ ((c.tag = 9 ∨ c.tag = 10 ∨ c.tag = 12 ∨ c.tag = 7 ∨ c.tag = 8) ∨ c.a = 0) := by
  unfold bareOk at h
  simp only [Bool.and_eq_true, Bool.or_eq_true, decide_eq_true_eq, List.isEmpty_iff] at h
  obtain ⟨⟨⟨b1, b2⟩, b3⟩, b4⟩ := h
  exact ⟨b1, b2, b3, b4⟩
theorem place_parts {L : List KV} (hp : poolOk L = true) (k : Nat) (hk : k < L.length) : bareOk (kAt L k) = true ∧ leadOk L k = true := by
  have h1 := (poolOk_parts hp).2.2.2 k hk
  unfold placeOk at h1
  simpa using h1
theorem zero_in {L : List KV} (hp : poolOk L = true) (k : Nat) (hk : k < L.length) (h0 : (kAt L k).tag = 0) : kAt L k = kz := by
  obtain ⟨b1, b2, b3, b4⟩ := bare_parts (place_parts hp k hk).1
  generalize kAt L k = c at *
  obtain ⟨t, a, b, n, s⟩ := c
  simp only at *
  subst h0
  rcases b1 with h | rfl
  · cases h
  have hn : n = 0 := by omega
  have hb : b = 0 := by omega
  have ha : a = 0 := by omega
  subst hn hb ha
  rfl
theorem fits_in {L : List KV} (hp : poolOk L = true) (hw : ∀ c ∈ L, -9223372036854775808 ≤ c.n ∧ c.n ≤ 9223372036854775807) (k : Nat) (hk : k < L.length) (h0 : (kAt L k).tag ≠ 0) : FitsK (kAt L k) := by
  obtain ⟨h1, h2⟩ := place_parts hp k hk
  obtain ⟨b1, b2, b3, b4⟩ := bare_parts h1
  have h3 := tags hp k hk
  have hl := (poolOk_parts hp).2.1
  have hn := hw (kAt L k) (by rw [kAt_get L k hk]; exact List.getElem_mem hk)
  unfold leadOk at h2
  simp only at h2
  unfold FitsK
  generalize kAt L k = c at *
  obtain ⟨t, a, b, n, s⟩ := c
  simp only at *
  rcases h3 with h | rfl | rfl | rfl | rfl | rfl | rfl | rfl | rfl
  · exact absurd h h0
  · simp only [show ¬ ((1 : Int) = 0) by decide, if_false, if_true, Bool.and_eq_true, decide_eq_true_eq] at h2
    exact .inl ⟨rfl, by omega, by omega, by omega, h2.2⟩
  · rcases b1 with h | rfl
    · cases h
    exact .inr (.inl ⟨rfl, by omega, by omega, rfl, by omega, by omega⟩)
  · rcases b1 with h | rfl
    · cases h
    exact .inr (.inr (.inl ⟨rfl, by omega, by omega, rfl, by omega, by omega⟩))
  · rcases b1 with h | rfl
    · cases h
    simp only [show ¬ ((7 : Int) = 0) by decide, show ¬ ((7 : Int) = 1) by decide, show ¬ ((7 : Int) = 3) by decide, show ¬ ((7 : Int) = 5) by decide, show ¬ ((7 : Int) = 12) by decide, if_false, true_or, if_true] at h2
    have h5 := isT_true h2
    exact .inr (.inr (.inr (.inl ⟨.inl rfl, by omega, by omega, rfl, by omega, by omega⟩)))
  · rcases b1 with h | rfl
    · cases h
    simp only [show ¬ ((8 : Int) = 0) by decide, show ¬ ((8 : Int) = 1) by decide, show ¬ ((8 : Int) = 3) by decide, show ¬ ((8 : Int) = 5) by decide, show ¬ ((8 : Int) = 12) by decide, if_false, or_true, if_true] at h2
    have h5 := isT_true h2
    exact .inr (.inr (.inr (.inl ⟨.inr rfl, by omega, by omega, rfl, by omega, by omega⟩)))
  all_goals
    rcases b1 with h | rfl
    · cases h
    simp (decide := true) only [if_false, if_true, Bool.and_eq_true] at h2
    have h5 := isT_true h2.1
    have h6 := isT_true h2.2
    exact .inr (.inr (.inr (.inr ⟨by omega, by omega, rfl, by omega, by omega, by omega, by omega⟩)))
theorem bytes_split (L : List KV) (more : List UInt8) (j : Nat) (hj : j < L.length) : bytesK L ++ more = (putB L.length 2 ++ (L.take j).flatMap oneK) ++ (oneK (kAt L j) ++ ((L.drop (j + 1)).flatMap oneK ++ more)) := by
  have h : L.flatMap oneK = (L.take j).flatMap oneK ++ (oneK (kAt L j) ++ (L.drop (j + 1)).flatMap oneK) := by
    rw [kAt_get L j hj, ← List.flatMap_cons, ← List.drop_eq_getElem_cons hj, ← List.flatMap_append, List.take_append_drop]
  unfold bytesK
  rw [h]
  simp
theorem parF_of {L : List KV} (hp : poolOk L = true) (hw : ∀ c ∈ L, -9223372036854775808 ≤ c.n ∧ c.n ≤ 9223372036854775807) (more : List UInt8) :
    ∀ (fuel j : Nat), 1 ≤ j → j ≤ L.length → L.length ≤ fuel + j → (kAt L ((j : Int) - 1)).tag ≠ 5 → parF (bytesK L ++ more) L.length fuel (2 + ((L.take j).flatMap oneK).length) (L.take j) = (0, (bytesK L).length, L) := by
  have hend : ∀ fuel, parF (bytesK L ++ more) L.length fuel (2 + ((L.take L.length).flatMap oneK).length) (L.take L.length) = (0, (bytesK L).length, L) := by
    intro fuel
    rw [List.take_length, parF_end (Nat.le_refl _)]
    unfold bytesK
    rw [List.length_append, putB_length]
  intro fuel
  induction fuel with
  | zero =>
    intro j h1 h2 h3 h4
    obtain rfl : j = L.length := by omega
    exact hend 0
  | succ fuel ih =>
    intro j h1 h2 h3 h4
    by_cases hj : j = L.length
    · subst hj; exact hend _
    have hjl : j < L.length := by omega
    have hlead := (place_parts hp j hjl).2
    have h0 : (kAt L j).tag ≠ 0 := fun h0 => by
      unfold leadOk at hlead
      simp only at hlead
      rw [if_pos h0] at hlead
      simp at hlead
      omega
    have hone := one_enc (putB L.length 2 ++ (L.take j).flatMap oneK) ((L.drop (j + 1)).flatMap oneK ++ more) (kAt L j) (fits_in hp hw j hjl h0)
    rw [← bytes_split L more j hjl, List.length_append, putB_length] at hone
    have htk : (L.take (j + 1)) = L.take j ++ [kAt L j] := by rw [List.take_succ_eq_append_getElem hjl, kAt_get L j hjl]
    have hfl : ((L.take (j + 1)).flatMap oneK).length = ((L.take j).flatMap oneK).length + (oneK (kAt L j)).length := by
      rw [htk, List.flatMap_append, List.length_append]; simp
    rw [parF_next (by simp; omega) (by rw [hone]), hone]
    simp only
    by_cases h5 : (kAt L j).tag = 5
    · rw [if_pos h5]
      unfold leadOk at hlead
      simp only at hlead
      rw [if_neg h0, if_neg (by omega), if_neg (by omega), if_pos h5] at hlead
      simp only [Bool.and_eq_true, decide_eq_true_eq] at hlead
      have hz := zero_in hp (j + 1) hlead.1 (by rw [Int.natCast_add]; exact hlead.2)
      have htk2 : (L.take (j + 2)) = L.take j ++ [kAt L j] ++ [kz] := by rw [List.take_succ_eq_append_getElem hlead.1, ← kAt_get L (j + 1) hlead.1, hz, htk]
      have hfl2 : ((L.take (j + 2)).flatMap oneK).length = ((L.take j).flatMap oneK).length + (oneK (kAt L j)).length := by
        rw [htk2, ← htk, List.flatMap_append, List.length_append, hfl]
        simp [oneK, kz]
      have h6 := ih (j + 2) (by omega) (by omega) (by omega) (by rw [show ((j + 2 : Nat) : Int) - 1 = ((j + 1 : Nat) : Int) by omega, hz]; decide)
      rw [hfl2, htk2] at h6
      rw [Nat.add_assoc]
      exact h6
    · rw [if_neg h5]
      have h6 := ih (j + 1) (by omega) (by omega) (by omega) (by rw [show ((j + 1 : Nat) : Int) - 1 = (j : Int) by omega]; exact h5)
      rw [hfl, htk] at h6
      rw [Nat.add_assoc, List.append_nil]
      exact h6
/-- What is written is read as it was, whatever stands behind. -/
theorem parse_bytes {L : List KV} (hp : poolOk L = true) (hw : ∀ c ∈ L, -9223372036854775808 ≤ c.n ∧ c.n ≤ 9223372036854775807) (more : List UInt8) : parseK (bytesK L ++ more) = (0, (bytesK L).length, L) := by
  obtain ⟨h1, h2, h3, _⟩ := poolOk_parts hp
  have hz := zero_in hp 0 (by omega) h3
  have hn := next_put [] (L.flatMap oneK ++ more) L.length 2 (by decide) (by decide)
  rw [List.nil_append, ← List.append_assoc] at hn
  rw [show putB L.length 2 ++ L.flatMap oneK ++ more = bytesK L ++ more from rfl, Nat.mod_eq_of_lt (by omega : L.length < 256 ^ 2)] at hn
  simp only [List.length_nil, Nat.zero_add] at hn
  have ht : L.take 1 = [kz] := by rw [← hz]; rw [List.take_succ_eq_append_getElem (by omega : 0 < L.length), kAt_get L 0 (by omega)]; simp
  have hf := parF_of hp hw more L.length 1 (by omega) h1 (by omega) (by rw [show ((1 : Nat) : Int) - 1 = ((0 : Nat) : Int) by omega, hz]; decide)
  rw [ht, show ([kz].flatMap oneK).length = 0 from rfl] at hf
  unfold parseK
  rw [hn]
  simp only [Int.toNat_natCast]
  rw [hf]
  simp only [ne_eq, not_true_eq_false, if_false, hp]
  rw [if_neg (by omega), if_neg (by simp)]
end Go.Proofs.Ytlfoedagcagpgaa
