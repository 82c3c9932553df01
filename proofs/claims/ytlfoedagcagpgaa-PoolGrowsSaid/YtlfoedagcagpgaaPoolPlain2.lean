/- pool: a pool with a text more, plain. No program in sight. -/
import Derived.Test.YtlfoedagcagpgaaPoolFn5
namespace Go.Proofs.Ytlfoedagcagpgaa
open Go.RowKit
def moreK : KV := ⟨1, 0, 0, 0, [109, 111, 114, 101]⟩
theorem kAt_snoc (L : List KV) (x : KV) (i : Int) (h : i.toNat < L.length) : kAt (L ++ [x]) i = kAt L i := by
  unfold kAt
  simp [List.getD, List.getElem?_append_left h]
theorem kAt_last (L : List KV) (x : KV) : kAt (L ++ [x]) (L.length : Int) = x := by
  unfold kAt
  simp [List.getD]
theorem isT_snoc (L : List KV) (x : KV) (i t : Int) (h : i < L.length) : isT (L ++ [x]) i t = isT L i t := by
  by_cases h1 : i < 1
  · rw [isT_low h1, isT_low h1]
  · rw [isT_in (by omega) (by simp; omega), isT_in (by omega) h, kAt_snoc L x i (by omega)]
theorem textAt_snoc (L : List KV) (x : KV) (i : Int) (h : i < L.length) : textAt (L ++ [x]) i = textAt L i := by
  unfold textAt
  rw [isT_snoc L x i 1 h]
  cases hq : isT L i 1
  · rfl
  · have := (isT_true hq).1
    rw [kAt_snoc L x i (by omega)]
theorem lead_in {L : List KV} (hp : poolOk L = true) (k : Nat) (hk : k < L.length) : leadOk L k = true := by
  have h1 := (poolOk_parts hp).2.2.2 k hk
  unfold placeOk at h1
  simp at h1
  exact h1.2
theorem class_in {L : List KV} (hp : poolOk L = true) (i : Int) (h : isT L i 7 = true) : isT L (kAt L i).a 1 = true := by
  obtain ⟨h1, h2, h3⟩ := isT_true h
  obtain ⟨k, rfl⟩ : ∃ k : Nat, i = k := ⟨i.toNat, by omega⟩
  have h4 := lead_in hp k (by omega)
  unfold leadOk at h4
  simp [h3] at h4
  exact h4
theorem classAt_snoc (L : List KV) (x : KV) (hp : poolOk L = true) (i : Int) (h : i < L.length) : classAt (L ++ [x]) i = classAt L i := by
  unfold classAt
  rw [isT_snoc L x i 7 h]
  cases hq : isT L i 7
  · rfl
  · have h1 := (isT_true hq).1
    have h2 := class_in hp i hq
    have h3 := isT_true h2
    rw [kAt_snoc L x i (by omega), textAt_snoc L x _ h3.2.1, isT_snoc L x _ 1 h3.2.1]
theorem leadOk_snoc (L : List KV) (x : KV) (k : Nat) (hk : k < L.length) (h : leadOk L k = true) : leadOk (L ++ [x]) k = true := by
  have he := kAt_snoc L x k (by omega)
  unfold leadOk at h ⊢
  rw [he]
  generalize hc : kAt L k = c at *
  obtain ⟨t, a, b, n, s⟩ := c
  simp only at h ⊢
  by_cases h0 : t = 0
  · rw [if_pos h0] at h ⊢
    by_cases hk0 : k = 0
    · simp [hk0]
    · rw [kAt_snoc L x _ (by omega)]; exact h
  rw [if_neg h0] at h ⊢
  by_cases h1 : t = 1
  · rw [if_pos h1] at h ⊢; exact h
  rw [if_neg h1] at h ⊢
  by_cases h3 : t = 3
  · rw [if_pos h3]
  rw [if_neg h3] at h ⊢
  by_cases h5 : t = 5
  · rw [if_pos h5] at h ⊢
    simp only [Bool.and_eq_true, decide_eq_true_eq] at h ⊢
    refine ⟨by simp; omega, ?_⟩
    rw [kAt_snoc L x _ (by omega)]; exact h.2
  rw [if_neg h5] at h ⊢
  have key : ∀ (u v : Int), isT L u v = true → isT (L ++ [x]) u v = true := fun u v hu => by rw [isT_snoc L x u v (isT_true hu).2.1]; exact hu
  by_cases h12 : t = 12
  · rw [if_pos h12] at h ⊢
    simp only [Bool.and_eq_true] at h ⊢
    exact ⟨key _ _ h.1, key _ _ h.2⟩
  rw [if_neg h12] at h ⊢
  by_cases h7 : t = 7 ∨ t = 8
  · rw [if_pos h7] at h ⊢; exact key _ _ h
  rw [if_neg h7] at h ⊢
  by_cases h9 : t = 9 ∨ t = 10
  · rw [if_pos h9] at h ⊢
    simp only [Bool.and_eq_true] at h ⊢
    exact ⟨key _ _ h.1, key _ _ h.2⟩
  rw [if_neg h9] at h
  cases h
theorem poolOk_more {L : List KV} (hp : poolOk L = true) (hn : L.length + 1 ≤ 1024) : poolOk (L ++ [moreK]) = true := by
  obtain ⟨h1, h2, h3, h4⟩ := poolOk_parts hp
  refine poolOk_good (by simp) (by simpa using hn) (by rw [kAt_snoc L _ _ (by simp; omega)]; exact h3) (fun k hk => ?_)
  by_cases hkl : k < L.length
  · have h5 := h4 k hkl
    unfold placeOk at h5 ⊢
    simp only [Bool.and_eq_true] at h5 ⊢
    rw [kAt_snoc L _ k (by omega)]
    exact ⟨h5.1, leadOk_snoc L _ k hkl h5.2⟩
  · have : k = L.length := by simp at hk; omega
    subst this
    unfold placeOk leadOk
    rw [kAt_last]
    simp only
    rw [if_neg (by decide), if_pos (by decide)]
    decide
end Go.Proofs.Ytlfoedagcagpgaa
