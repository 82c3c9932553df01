/- jad's numbers and the document's are the same. No program in sight. No condition. -/
import Derived.Test.YtlpjcfiibbcdjaaGreatDoorJNum
namespace Go.Proofs.YtlpjcfiibbcdjaaGreatDoor
open Go.ChangeShapes Go.WideShapes Go.ChangeAt Go.RowKit
def numStep (c : UInt8) (n : Nat) : Option Nat := if c.toNat < 48 ∨ 57 < c.toNat then none else if 65536 < n * 10 + (c.toNat - 48) then none else some (n * 10 + (c.toNat - 48))
theorem numGo_cons (n : Nat) (c : UInt8) (s : List UInt8) : numGo n (c :: s) = (numStep c n).bind fun m => numGo m s := by
  rw [numGo]
  unfold numStep
  repeat' split
  all_goals rfl
theorem numGo_snoc : ∀ (s : List UInt8) (n : Nat) (c : UInt8), numGo n (s ++ [c]) = (numGo n s).bind (numStep c)
  | [], n, c => by
    rw [List.nil_append, numGo_cons, show numGo n [] = some n from rfl]
    show _ = numStep c n
    cases numStep c n <;> rfl
  | d :: s, n, c => by
    rw [List.cons_append, numGo_cons, numGo_cons]
    cases numStep d n with
    | none => rfl
    | some m => exact numGo_snoc s m c
theorem numStep_digit {n d : Nat} (h : d < 10) (h2 : n * 10 + d ≤ 65536) : numStep (UInt8.ofNat (48 + d)) n = some (n * 10 + d) := by
  have hc : (UInt8.ofNat (48 + d)).toNat = 48 + d := by rw [UInt8.toNat_ofNat']; omega
  unfold numStep
  rw [hc, if_neg (by omega), if_neg (by omega)]
  congr 1
  omega
theorem numGo_dec : ∀ (m u : Nat), u < m → u ≤ 65536 → numGo 0 (Lib.decDigits u) = some u := by
  intro m
  induction m with
  | zero => intro u h; omega
  | succ m ih =>
    intro u hu h2
    by_cases h : u < 10
    · rw [dec_small h, ← List.nil_append [UInt8.ofNat (48 + u)], numGo_snoc, numGo]
      show numStep _ 0 = _
      rw [numStep_digit h (by omega)]
      congr 1; omega
    · rw [dec_big h, numGo_snoc, ih (u / 10) (by omega) (by omega)]
      show numStep _ (u / 10) = _
      rw [numStep_digit (Nat.mod_lt _ (by decide)) (by omega)]
      congr 1; omega
theorem numStep_some {c : UInt8} {n k : Nat} (h : numStep c n = some k) : ∃ d, d < 10 ∧ c = UInt8.ofNat (48 + d) ∧ k = n * 10 + d ∧ k ≤ 65536 := by
  unfold numStep at h
  split at h
  · cases h
  · split at h
    · cases h
    · cases h
      refine ⟨c.toNat - 48, by omega, ?_, rfl, by omega⟩
      apply UInt8.toNat_inj.1
      rw [UInt8.toNat_ofNat']
      have := c.toNat_lt
      omega
theorem numGo_bound : ∀ (s : List UInt8) (a n : Nat), a ≤ 65536 → numGo a s = some n → n ≤ 65536
  | [], a, n, h, h2 => by rw [numGo] at h2; cases h2; exact h
  | c :: s, a, n, h, h2 => by
    rw [numGo_cons] at h2
    cases h3 : numStep c a with
    | none => rw [h3] at h2; cases h2
    | some m =>
      rw [h3] at h2
      obtain ⟨d, _, _, _, hm⟩ := numStep_some h3
      exact numGo_bound s m n hm h2
/-- Digits without a needless 0 ahead are the number's. -/
theorem numGo_only : ∀ (k : Nat) (s : List UInt8) (n : Nat), s.length = k → s ≠ [] → ¬ (1 < s.length ∧ s.head? = some 48) → numGo 0 s = some n → s = Lib.decDigits n := by
  intro k
  induction k with
  | zero => intro s n h h2; exact absurd (List.eq_nil_of_length_eq_zero h) h2
  | succ k ih =>
    intro s n hl hne hz hg
    obtain ⟨q, c, rfl⟩ : ∃ q c, s = q ++ [c] := ⟨s.dropLast, s.getLast hne, (List.dropLast_concat_getLast hne).symm⟩
    rw [numGo_snoc] at hg
    cases h3 : numGo 0 q with
    | none => rw [h3] at hg; cases hg
    | some m =>
      rw [h3] at hg
      obtain ⟨d, hd, rfl, rfl, hle⟩ := numStep_some hg
      by_cases hq : q = []
      · subst hq
        rw [numGo] at h3
        cases h3
        simp only [List.nil_append]
        rw [dec_small (by omega)]
        congr 2; omega
      · have hlq : q.length = k := by simp at hl; omega
        have hq0 : 0 < q.length := List.length_pos_iff.2 hq
        have hhd : (q ++ [UInt8.ofNat (48 + d)]).head? = q.head? := by cases q with | nil => exact absurd rfl hq | cons a l => rfl
        have hz2 : ¬ q.head? = some 48 := fun h => hz ⟨by simp; omega, by rw [hhd]; exact h⟩
        have he := ih q m hlq hq (fun h => hz2 h.2) h3
        have hm : m ≠ 0 := by
          rintro rfl
          rw [he, dec_small (by decide)] at hz2
          exact hz2 rfl
        rw [dec_big (u := m * 10 + d) (by omega), show (m * 10 + d) / 10 = m by omega, show (m * 10 + d) % 10 = d by omega, ← he]
theorem dec_ne (u : Nat) : Lib.decDigits u ≠ [] := by
  by_cases h : u < 10
  · rw [dec_small h]; simp
  · rw [dec_big h]; simp
theorem dec_head : ∀ (m u : Nat), u < m → 1 ≤ u → ∃ d, 1 ≤ d ∧ d < 10 ∧ (Lib.decDigits u).head? = some (UInt8.ofNat (48 + d)) := by
  intro m
  induction m with
  | zero => intro u h; omega
  | succ m ih =>
    intro u hu h1
    by_cases h : u < 10
    · rw [dec_small h]; exact ⟨u, h1, h, rfl⟩
    · obtain ⟨d, h2, h3, h4⟩ := ih (u / 10) (by omega) (by omega)
      refine ⟨d, h2, h3, ?_⟩
      rw [dec_big h, ← h4]
      cases e : Lib.decDigits (u / 10) with
      | nil => exact absurd e (dec_ne _)
      | cons a l => rfl
theorem numR_dec (u : Nat) (h : u ≤ 65536) : numR (Lib.decDigits u) = u := by
  unfold numR
  rw [numGo_dec (u + 1) u (by omega) h]
  show (if _ then _ else _) = _
  rw [if_neg]
  rintro (h1 | ⟨h1, h2⟩)
  · exact dec_ne u (List.eq_nil_of_length_eq_zero h1)
  · by_cases h0 : u = 0
    · subst h0; rw [dec_small (by decide)] at h1; simp at h1
    · obtain ⟨d, h3, h4, h5⟩ := dec_head (u + 1) u (by omega) (by omega)
      rw [h5, Option.some.injEq] at h2
      have := congrArg UInt8.toNat h2
      rw [UInt8.toNat_ofNat', show (48 : UInt8).toNat = 48 from rfl] at this
      omega
theorem numR_only {s : List UInt8} (h : 0 ≤ numR s) : ∃ u : Nat, u ≤ 65536 ∧ s = Lib.decDigits u ∧ numR s = u := by
  unfold numR at h ⊢
  cases hg : numGo 0 s with
  | none => rw [hg] at h; exact absurd (show (0 : Int) ≤ -1 from h) (by decide)
  | some n =>
    rw [hg] at h
    simp only [] at h ⊢
    by_cases hc : s.length = 0 ∨ (1 < s.length ∧ s.head? = some 48)
    · rw [if_pos hc] at h; exact absurd h (by decide)
    · rw [if_neg hc]
      refine ⟨n, numGo_bound s 0 n (by omega) hg, numGo_only s.length s n rfl ?_ (fun h => hc (Or.inr h)) hg, rfl⟩
      rintro rfl
      exact hc (Or.inl rfl)
theorem parse_of_go : ∀ (s : List UInt8) (a n : Nat), a ≤ 65536 → numGo a s = some n → Lib.parseUint10 a s = .ok n
  | [], a, n, h, h2 => by rw [numGo] at h2; cases h2; rfl
  | c :: s, a, n, h, h2 => by
    rw [numGo_cons] at h2
    cases h3 : numStep c a with
    | none => rw [h3] at h2; cases h2
    | some m =>
      rw [h3] at h2
      obtain ⟨d, hd, rfl, rfl, hm⟩ := numStep_some h3
      have hc : (UInt8.ofNat (48 + d)).toNat = 48 + d := by rw [UInt8.toNat_ofNat']; omega
      unfold Lib.parseUint10
      rw [hc, if_pos (by omega), if_neg (by omega), if_neg (by omega), show 48 + d - 48 = d by omega]
      exact parse_of_go s _ n hm h2
theorem atoi_dec (u : Nat) (h : u ≤ 65536) : Lib.atoiAll (Lib.decDigits u) = .ok (u : Int) := by
  have hg := numGo_dec (u + 1) u (by omega) h
  have hp := parse_of_go _ 0 u (by omega) hg
  have hhd : ∃ c r, Lib.decDigits u = c :: r ∧ 48 ≤ c.toNat := by
    cases e : Lib.decDigits u with
    | nil => exact absurd e (dec_ne _)
    | cons c r =>
      refine ⟨c, r, rfl, ?_⟩
      rw [e, numGo_cons] at hg
      cases h3 : numStep c 0 with
      | none => rw [h3] at hg; cases hg
      | some m =>
        obtain ⟨d, hd, rfl, _⟩ := numStep_some h3
        rw [UInt8.toNat_ofNat']; omega
  obtain ⟨c, r, e, hc⟩ := hhd
  rw [e] at hp ⊢
  unfold Lib.atoiAll
  simp only [show ¬ (c.toNat = 43 ∨ c.toNat = 45) from by omega, if_false, Lib.parseMag, List.cons_ne_nil, hp]
  have hn : ¬ c.toNat = 45 := by omega
  simp [hn]
  omega
theorem atoiV_dec (u : Nat) (h : u ≤ 65536) : atoiV (Lib.decDigits u) = u ∧ atoiOk (Lib.decDigits u) = true := by
  unfold atoiV atoiOk
  rw [atoi_dec u h]
  exact ⟨rfl, rfl⟩
theorem numOk_iff (s : List UInt8) (most : Nat) (hm : most ≤ 65536) : numOk s most = true ↔ ∃ u : Nat, u ≤ most ∧ s = Lib.decDigits u := by
  constructor
  · intro h
    unfold numOk at h
    simp only [Bool.and_eq_true, decide_eq_true_eq] at h
    obtain ⟨_, h0, h1, h2⟩ := h
    refine ⟨(atoiV s).toNat, by omega, ?_⟩
    unfold Lib.itoa at h2
    rw [if_neg (by omega)] at h2
    exact h2.symm
  · rintro ⟨u, hu, rfl⟩
    obtain ⟨e1, e2⟩ := atoiV_dec u (by omega)
    unfold numOk
    rw [e1, e2]
    simp only [Bool.true_and, Bool.and_eq_true, decide_eq_true_eq]
    refine ⟨by omega, by omega, ?_⟩
    unfold Lib.itoa
    rw [if_neg (by omega)]
    rfl
/-- jad's number is the document's. -/
theorem numOk_ref (s : List UInt8) (most : Nat) (hm : most ≤ 65536) : numOk s most = (decide (0 ≤ numR s) && decide (numR s ≤ most)) := by
  rw [Bool.eq_iff_iff, numOk_iff s most hm]
  simp only [Bool.and_eq_true, decide_eq_true_eq]
  constructor
  · rintro ⟨u, hu, rfl⟩
    rw [numR_dec u (by omega)]
    omega
  · rintro ⟨h0, h1⟩
    obtain ⟨u, hu, e, e2⟩ := numR_only h0
    exact ⟨u, by omega, e⟩
theorem atoiV_ref {s : List UInt8} {most : Nat} (hm : most ≤ 65536) (h : numOk s most = true) : atoiV s = numR s := by
  obtain ⟨u, hu, rfl⟩ := (numOk_iff s most hm).1 h
  rw [numR_dec u (by omega), (atoiV_dec u (by omega)).1]
end Go.Proofs.YtlpjcfiibbcdjaaGreatDoor
