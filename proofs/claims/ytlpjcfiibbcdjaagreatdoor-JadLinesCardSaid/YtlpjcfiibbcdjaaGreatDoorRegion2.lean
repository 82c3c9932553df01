/- A region that draws its order, walked once, where what is known of the worlds grows on the way. Over any program. -/
import Derived.Test.YtlpjcfiibbcdjaaGreatDoorRegion
namespace Go.Proofs.YtlpjcfiibbcdjaaGreatDoor
open Go.RowKit
theorem wpAnyH_mono {P : Program} {md : Region.Mode} {ops : Array Oper} {Q : Exit → Act → World → Prop} {S S' : World → Prop} (hS : ∀ x, S' x → S x) :
    ∀ (fuel : Nat) (listed : Array Bool) (a : Act) (w : World), wpAnyH P md ops Q S' fuel listed a w → wpAnyH P md ops Q S fuel listed a w
  | 0, _, _, _, h => h
  | fuel + 1, _, _, _, h => ⟨h.1, fun i hi => wpOp_mono (fun a' w' h' => ⟨hS _ h'.1, wpAnyH_mono hS fuel _ a' w' h'.2⟩) (h.2 i hi)⟩
def wpLex2 (P : Program) (ops : Array Oper) (Q : Exit → Act → World → Prop) : List (Nat × Bool) → (World → Prop) → Act → World → Prop
  | [], _, a, w => Q .normal a w
  | (i, b) :: l, S, a, w => ∃ S' : World → Prop, (∀ x, S' x → S x) ∧ lexOp P ops Q S' i b (wpLex2 P ops Q l S') a w
theorem lex2_sound {P : Program} {ops : Array Oper} {Q : Exit → Act → World → Prop} (hs : Region.noSelect ops = true) (hQ : ∀ c a d v w, Q (.panic c) (a.put d v) w → Q (.panic c) a w) :
    ∀ (l : List (Nat × Bool)) (S : World → Prop) (listed : Array Bool) (a : Act) (w : World), checkLex ops listed l = true → wpLex2 P ops Q l S a w → wpAnyH P .any ops Q S l.length listed a w := by
  intro l
  induction l with
  | nil =>
    intro S listed a w hc h
    exact ⟨by simpa [checkLex] using hc, h⟩
  | cons p l ih =>
    obtain ⟨i, b⟩ := p
    intro S listed a w hc h
    obtain ⟨S', hSS, h⟩ := h
    refine wpAnyH_mono hSS _ _ _ _ ?_
    simp only [checkLex, Bool.and_eq_true] at hc
    obtain ⟨hc1, hc2⟩ := hc
    unfold lexOp at h
    cases ho : ops[i]? with
    | none => rw [ho] at h; exact h.elim
    | some o =>
      rw [ho] at h
      simp only at h
      cases b with
      | true =>
        simp only [if_true, Bool.and_eq_true] at hc1
        obtain ⟨hf, hr⟩ := hc1
        by_cases hw : Region.wanted o (yielded ops a.tmps) = true
        · rw [if_pos hw] at h
          obtain ⟨v, h1, h2, h3⟩ := h
          exact wpAnyH_take ho hs hf hr (fun c a w => hQ c a _ _ w) (.inl ⟨hw, h1⟩) h2 (ih _ _ _ _ hc2 h3)
        · rw [if_neg hw] at h
          exact wpAnyH_take ho hs hf hr (fun c a w => hQ c a _ _ w) (.inr ⟨by simpa using hw, rfl⟩) h.1 (ih _ _ _ _ hc2 h.2)
      | false =>
        simp only [Bool.false_eq_true, if_false] at hc1
        have hr : Region.ready .any ops listed = [i] := by simpa using hc1
        refine wpAnyH_all hr (by simp) (fun j hj => ?_)
        obtain rfl : j = i := by simpa using hj
        unfold wpOp
        rw [ho]
        simp only
        by_cases hw : Region.wanted o (yielded ops a.tmps) = true
        · rw [if_pos hw] at h
          simp only [hw, if_true]
          exact .inl (Oper.wp_mono (fun a' w' h' => ⟨h'.1, ih _ _ _ _ hc2 h'.2⟩) h)
        · rw [if_neg hw] at h
          simp only [hw]
          exact ⟨h.1, ih _ _ _ _ hc2 h.2⟩
theorem wp_region_lex2 {P : Program} {id : Nat} {ops : Array Oper} {Q : Exit → Act → World → Prop} {a : Act} {w : World} (S : World → Prop) (l : List (Nat × Bool)) (hm : P.follows .mixedOrders = true)
    (hc : (Region.noSelect ops && (l.length == ops.size) && checkLex ops (Array.replicate ops.size false) l) = true) (hQ : ∀ c a d v w, Q (.panic c) (a.put d v) w → Q (.panic c) a w)
    (h : wpLex2 P ops Q l S a w.drew) : (Code.region id ops true).wp P Q a w := by
  simp only [Bool.and_eq_true, beq_iff_eq] at hc
  obtain ⟨⟨hs, hl⟩, hk⟩ := hc
  have := lex2_sound (P := P) (Q := Q) hs hQ l S _ a _ hk h
  rw [hl] at this
  exact wp_region_held hm this
theorem lex2_step {P : Program} {ops : Array Oper} {Q : Exit → Act → World → Prop} {S : World → Prop} {i : Nat} {b : Bool} {l : List (Nat × Bool)} {a : Act} {w : World}
    (h : ∀ K : Act → World → Prop, (∀ a w, wpLex2 P ops Q l S a w → K a w) → lexOp P ops Q S i b K a w) : wpLex2 P ops Q ((i, b) :: l) S a w := ⟨S, fun _ h => h, h _ (fun _ _ h => h)⟩
/-- From here on more is known of the worlds. -/
theorem lex2_strong {P : Program} {ops : Array Oper} {Q : Exit → Act → World → Prop} {S : World → Prop} {l : List (Nat × Bool)} {a : Act} {w : World} (S' : World → Prop) (hS : ∀ x, S' x → S x) (h : wpLex2 P ops Q l S' a w) : wpLex2 P ops Q l S a w := by
  cases l with
  | nil => exact h
  | cons p l =>
    obtain ⟨i, b⟩ := p
    obtain ⟨S2, h2, h3⟩ := h
    exact ⟨S2, fun x hx => hS x (h2 x hx), h3⟩
theorem lex2_nil {P : Program} {ops : Array Oper} {Q : Exit → Act → World → Prop} {S : World → Prop} {a : Act} {w : World} (h : Q .normal a w) : wpLex2 P ops Q [] S a w := h
end Go.Proofs.YtlpjcfiibbcdjaaGreatDoor
