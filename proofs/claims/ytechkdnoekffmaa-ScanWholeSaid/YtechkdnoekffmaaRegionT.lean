/- A region that draws its order, walked along a tree: where two operations may come up that both turn the world, both orders are walked. Over any program. -/
import Derived.Test.YtechkdnoekffmaaRegion
namespace Go.Proofs.Ytechkdnoekffmaa
open Go.RowKit
inductive LexT where
  | nil : LexT
  | step : Nat → Bool → LexT → LexT
  | fork : Nat → LexT → Nat → LexT → LexT
def wpLexT (P : Program) (ops : Array Oper) (Q : Exit → Act → World → Prop) (S : World → Prop) : LexT → Act → World → Prop
  | .nil, a, w => Q .normal a w
  | .step i b l, a, w => lexOp P ops Q S i b (wpLexT P ops Q S l) a w
  | .fork i l j m, a, w => lexOp P ops Q S i false (wpLexT P ops Q S l) a w ∧ lexOp P ops Q S j false (wpLexT P ops Q S m) a w
def checkT (ops : Array Oper) : Nat → Array Bool → LexT → Bool
  | 0, listed, .nil => (Region.ready .any ops listed).isEmpty
  | n + 1, listed, .step i b l => (if b then Region.free .any ops listed i && (Region.ready .any ops listed).contains i else Region.ready .any ops listed == [i]) && checkT ops n (listed.setIfInBounds i true) l
  | n + 1, listed, .fork i l j m => (Region.ready .any ops listed == [i, j]) && checkT ops n (listed.setIfInBounds i true) l && checkT ops n (listed.setIfInBounds j true) m
  | _, _, _ => false
theorem lexT_sound {P : Program} {ops : Array Oper} {Q : Exit → Act → World → Prop} {S : World → Prop} (hs : Region.noSelect ops = true) (hQ : ∀ c a d v w, Q (.panic c) (a.put d v) w → Q (.panic c) a w) :
    ∀ (l : LexT) (n : Nat) (listed : Array Bool) (a : Act) (w : World), checkT ops n listed l = true → wpLexT P ops Q S l a w → wpAnyH P .any ops Q S n listed a w := by
  intro l
  induction l with
  | nil =>
    intro n listed a w hc h
    cases n with
    | zero => exact ⟨by simpa [checkT] using hc, h⟩
    | succ n => simp [checkT] at hc
  | step i b l ih =>
    intro n listed a w hc h
    cases n with
    | zero => simp [checkT] at hc
    | succ n =>
    simp only [checkT, Bool.and_eq_true] at hc
    obtain ⟨hc1, hc2⟩ := hc
    change lexOp P ops Q S i b (wpLexT P ops Q S l) a w at h
    unfold lexOp at h
    cases ho : ops[i]? with
    | none => rw [ho] at h; exact h.elim
    | some o =>
      rw [ho] at h
      simp only at h
      cases b with
      | true =>
        simp only [if_true, Bool.and_eq_true] at hc1
        obtain ⟨hf, hr⟩ := hc1
        by_cases hw : Region.wanted o (yielded ops a.tmps) = true
        · rw [if_pos hw] at h
          obtain ⟨v, h1, h2, h3⟩ := h
          exact wpAnyH_take ho hs hf hr (fun c a w => hQ c a _ _ w) (.inl ⟨hw, h1⟩) h2 (ih _ _ _ _ hc2 h3)
        · rw [if_neg hw] at h
          exact wpAnyH_take ho hs hf hr (fun c a w => hQ c a _ _ w) (.inr ⟨by simpa using hw, rfl⟩) h.1 (ih _ _ _ _ hc2 h.2)
      | false =>
        simp only [Bool.false_eq_true, if_false] at hc1
        have hr : Region.ready .any ops listed = [i] := by simpa using hc1
        refine wpAnyH_all hr (by simp) (fun j hj => ?_)
        obtain rfl : j = i := by simpa using hj
        unfold wpOp
        rw [ho]
        simp only
        by_cases hw : Region.wanted o (yielded ops a.tmps) = true
        · rw [if_pos hw] at h
          simp only [hw, if_true]
          exact .inl (Oper.wp_mono (fun a' w' h' => ⟨h'.1, ih _ _ _ _ hc2 h'.2⟩) h)
        · rw [if_neg hw] at h
          simp only [hw]
          exact ⟨h.1, ih _ _ _ _ hc2 h.2⟩
  | fork i l j m ih1 ih2 =>
    intro n listed a w hc h
    cases n with
    | zero => simp [checkT] at hc
    | succ n =>
    simp only [checkT, Bool.and_eq_true] at hc
    obtain ⟨⟨hc1, hc2⟩, hc3⟩ := hc
    have hr : Region.ready .any ops listed = [i, j] := by simpa using hc1
    obtain ⟨h1, h2⟩ := h
    refine wpAnyH_all hr (by simp) (fun k hk => ?_)
    have hk' : k = i ∨ k = j := by simpa using hk
    rcases hk' with rfl | rfl
    · unfold lexOp at h1
      cases ho : ops[k]? with
      | none => rw [ho] at h1; exact h1.elim
      | some o =>
        rw [ho] at h1
        simp only at h1
        unfold wpOp
        rw [ho]
        simp only
        by_cases hw : Region.wanted o (yielded ops a.tmps) = true
        · rw [if_pos hw] at h1
          simp only [hw, if_true]
          exact .inl (Oper.wp_mono (fun a' w' h' => ⟨h'.1, ih1 _ _ _ _ hc2 h'.2⟩) h1)
        · rw [if_neg hw] at h1
          simp only [hw]
          exact ⟨h1.1, ih1 _ _ _ _ hc2 h1.2⟩
    · unfold lexOp at h2
      cases ho : ops[k]? with
      | none => rw [ho] at h2; exact h2.elim
      | some o =>
        rw [ho] at h2
        simp only at h2
        unfold wpOp
        rw [ho]
        simp only
        by_cases hw : Region.wanted o (yielded ops a.tmps) = true
        · rw [if_pos hw] at h2
          simp only [hw, if_true]
          exact .inl (Oper.wp_mono (fun a' w' h' => ⟨h'.1, ih2 _ _ _ _ hc3 h'.2⟩) h2)
        · rw [if_neg hw] at h2
          simp only [hw]
          exact ⟨h2.1, ih2 _ _ _ _ hc3 h2.2⟩
def LexT.of : List (Nat × Bool) → LexT → LexT
  | [], t => t
  | (i, b) :: l, t => .step i b (LexT.of l t)
theorem wp_region_lexT {P : Program} {id : Nat} {ops : Array Oper} {Q : Exit → Act → World → Prop} {a : Act} {w : World} (S : World → Prop) (l : LexT) (hm : P.follows .mixedOrders = true)
    (hc : (Region.noSelect ops && checkT ops ops.size (Array.replicate ops.size false) l) = true) (hQ : ∀ c a d v w, Q (.panic c) (a.put d v) w → Q (.panic c) a w)
    (h : wpLexT P ops Q S l a w.drew) : (Code.region id ops true).wp P Q a w := by
  simp only [Bool.and_eq_true] at hc
  obtain ⟨hs, hk⟩ := hc
  exact wp_region_held hm (lexT_sound (P := P) (Q := Q) (S := S) hs hQ l _ _ a _ hk h)
theorem lexT_step {P : Program} {ops : Array Oper} {Q : Exit → Act → World → Prop} {S : World → Prop} {i : Nat} {b : Bool} {l : LexT} {a : Act} {w : World}
    (h : ∀ K : Act → World → Prop, (∀ a w, wpLexT P ops Q S l a w → K a w) → lexOp P ops Q S i b K a w) : wpLexT P ops Q S (.step i b l) a w := h _ (fun _ _ h => h)
theorem lexT_fork {P : Program} {ops : Array Oper} {Q : Exit → Act → World → Prop} {S : World → Prop} {i j : Nat} {l m : LexT} {a : Act} {w : World}
    (h1 : wpLexT P ops Q S (.step i false l) a w) (h2 : wpLexT P ops Q S (.step j false m) a w) : wpLexT P ops Q S (.fork i l j m) a w := ⟨h1, h2⟩
theorem lexT_nil {P : Program} {ops : Array Oper} {Q : Exit → Act → World → Prop} {S : World → Prop} {a : Act} {w : World} (h : Q .normal a w) : wpLexT P ops Q S .nil a w := h
end Go.Proofs.Ytechkdnoekffmaa
