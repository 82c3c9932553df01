/- The lines so far. No program in sight. No condition. -/
import Derived.Test.YtlpjcfiibbcdjaaGreatDoorJBack2
namespace Go.Proofs.YtlpjcfiibbcdjaaGreatDoor
open Go.ChangeShapes Go.WideShapes Go.ChangeAt Go.RowKit
theorem sp_snoc_same (c : UInt8) : ∀ s : List UInt8, sp c (s ++ [c]) = sp c s ++ [[]]
  | [] => by simp [sp]
  | b :: s => by
    rw [List.cons_append, sp, sp, sp_snoc_same c s]
    by_cases h : b = c
    · rw [if_pos h, if_pos h]; rfl
    · rw [if_neg h, if_neg h]
      obtain ⟨x, xs, e⟩ := sp_ne c s
      rw [e]; rfl
theorem sp_snoc_other {c d : UInt8} (hd : ¬ d = c) : ∀ s : List UInt8, ∃ xs x, sp c s = xs ++ [x] ∧ sp c (s ++ [d]) = xs ++ [x ++ [d]]
  | [] => ⟨[], [], rfl, by simp [sp, hd]⟩
  | b :: s => by
    obtain ⟨xs, x, e1, e2⟩ := sp_snoc_other hd s
    rw [List.cons_append, sp, sp, e1, e2]
    by_cases h : b = c
    · rw [if_pos h, if_pos h]
      exact ⟨[] :: xs, x, rfl, rfl⟩
    · rw [if_neg h, if_neg h]
      cases xs with
      | nil => exact ⟨[], b :: x, rfl, rfl⟩
      | cons y ys => exact ⟨(b :: y) :: ys, x, rfl, rfl⟩
def PL (s : List UInt8) : List (List UInt8) := (sp 10 s ++ List.replicate 5 []).take 5
theorem PL_len (s : List UInt8) : (PL s).length = 5 := by unfold PL; simp
theorem PL_mem {s x : List UInt8} (hm : x ∈ PL s) : x.length ≤ s.length := by
  unfold PL at hm
  rcases List.mem_append.1 (List.mem_of_mem_take hm) with h1 | h1
  · exact sp_len_mem 10 _ _ h1
  · rw [(List.mem_replicate.1 h1).2]; simp
theorem PL_feed (s : List UInt8) : PL (s ++ [10]) = PL s := by
  unfold PL
  rw [sp_snoc_same, List.append_assoc]
  obtain ⟨x, xs, e⟩ := sp_ne 10 s
  rw [show [([] : List UInt8)] ++ List.replicate 5 [] = List.replicate 5 [] ++ [[]] from rfl, ← List.append_assoc]
  rw [List.take_append_of_le_length (by simp)]
theorem PL_sign {d : UInt8} (hd : ¬ d = 10) (s : List UInt8) (n : Nat) (hn : n + 1 = (sp 10 s).length) (h5 : n < 5) :
    ∃ h : n < (PL s).length, PL (s ++ [d]) = (PL s).set n ((PL s)[n] ++ [d]) := by
  obtain ⟨xs, x, e1, e2⟩ := sp_snoc_other hd s
  have hx : xs.length = n := by rw [e1] at hn; simp at hn; omega
  refine ⟨by rw [PL_len]; exact h5, ?_⟩
  unfold PL
  rw [e2]
  apply List.ext_getElem?
  intro k
  rw [List.getElem?_set]
  simp only [e1, List.getElem?_take, List.length_take, List.getElem_take]
  subst hx
  by_cases hk : k = xs.length
  · subst hk
    simp [h5]
  · rcases Nat.lt_or_ge k xs.length with h | h
    · simp [Ne.symm hk, List.getElem?_append_left h, List.append_assoc]
    · simp [Ne.symm hk, List.append_assoc, List.getElem?_append_right h]
      obtain ⟨m, hm⟩ : ∃ m, k - xs.length = m + 1 := ⟨k - xs.length - 1, by omega⟩
      rw [hm]
      rfl
theorem sp_len_app (c : UInt8) : ∀ u v : List UInt8, (sp c (u ++ v)).length + 1 = (sp c u).length + (sp c v).length
  | [], v => by simp [sp]; omega
  | b :: u, v => by
    have ih := sp_len_app c u v
    rw [List.cons_append, sp, sp]
    by_cases h : b = c
    · rw [if_pos h, if_pos h]; simp only [List.length_cons]; omega
    · rw [if_neg h, if_neg h]
      obtain ⟨x, xs, e⟩ := sp_ne c u
      obtain ⟨y, ys, e2⟩ := sp_ne c (u ++ v)
      rw [e, e2] at ih
      rw [e, e2]
      simpa using ih
theorem PL_text {j : JD} (h : OkJ j) : PL (textJ j) = [0, 1, 2, 3, 4].map (lineJ j) := by unfold PL; rw [text_lines h]; rfl
/-- Ahead of a sign there are four line feeds at most. -/
theorem feeds_few {j : JD} (h : OkJ j) (k : Nat) (hk : k < (textJ j).length) (hc : (textJ j)[k] ≠ 10) : (sp 10 ((textJ j).take k)).length ≤ 5 := by
  have h6 : (sp 10 (textJ j)).length = 6 := by rw [text_lines h]; rfl
  have e := sp_len_app 10 ((textJ j).take k) ((textJ j).drop k)
  rw [List.take_append_drop, h6] at e
  have hl : ∃ q, textJ j = q ++ [10] := ⟨_, by rw [textJ]⟩
  obtain ⟨q, hq⟩ := hl
  have hkq : k < q.length := by
    rw [hq] at hk
    simp at hk
    rcases Nat.lt_or_ge k q.length with h1 | h1
    · exact h1
    · exfalso
      have : k = q.length := by omega
      subst this
      apply hc
      simp [hq]
  have hd : (textJ j).drop k = q.drop k ++ [10] := by rw [hq, List.drop_append_of_le_length (by omega)]
  rw [hd, sp_snoc_same, List.length_append, List.length_singleton] at e
  obtain ⟨x, xs, e2⟩ := sp_ne 10 (q.drop k)
  have : 1 ≤ (sp 10 (q.drop k)).length := by rw [e2]; simp
  omega
end Go.Proofs.YtlpjcfiibbcdjaaGreatDoor
