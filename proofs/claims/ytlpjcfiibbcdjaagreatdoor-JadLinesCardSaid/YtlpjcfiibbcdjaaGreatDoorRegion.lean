/- A region that draws its order, walked once: in an order of the prover's choosing; what only reads comes as early as it may, what makes memory comes up alone. Over any program. -/
import Derived.Test.YtlpjcfiibbcdjaaGreatDoorLib2
import Derived.OrdersHeld
namespace Go.Proofs.YtlpjcfiibbcdjaaGreatDoor
open Go.RowKit

/-- One operation: 'b' true: it yields one value in every world that meets S. 'b' false: it comes up alone. -/
def lexOp (P : Program) (ops : Array Oper) (Q : Exit → Act → World → Prop) (S : World → Prop) (i : Nat) (b : Bool) (K : Act → World → Prop) (a : Act) (w : World) : Prop :=
  match ops[i]? with
  | none => False
  | some o =>
    if Region.wanted o (yielded ops a.tmps) = true then
      (match b with
        | true => ∃ v, (∀ w', S w' → (execOp a.eval o).run P w' = .ok (.value v) w') ∧ S w ∧ K (a.put o.dst v) w
        | false => o.wp P a w (fun a' w' => S w' ∧ K a' w') Q)
    else S w ∧ K (a.put o.dst undef) w
def wpLex (P : Program) (ops : Array Oper) (Q : Exit → Act → World → Prop) (S : World → Prop) : List (Nat × Bool) → Act → World → Prop
  | [], a, w => Q .normal a w
  | (i, b) :: l, a, w => lexOp P ops Q S i b (wpLex P ops Q S l) a w
/-- May the operations come up in this order, and is that all that is to be looked at? -/
def checkLex (ops : Array Oper) : Array Bool → List (Nat × Bool) → Bool
  | listed, [] => (Region.ready .any ops listed).isEmpty
  | listed, (i, b) :: l => (if b then Region.free .any ops listed i && (Region.ready .any ops listed).contains i else Region.ready .any ops listed == [i]) && checkLex ops (listed.setIfInBounds i true) l

theorem lex_sound {P : Program} {ops : Array Oper} {Q : Exit → Act → World → Prop} {S : World → Prop} (hs : Region.noSelect ops = true) (hQ : ∀ c a d v w, Q (.panic c) (a.put d v) w → Q (.panic c) a w) :
    ∀ (l : List (Nat × Bool)) (listed : Array Bool) (a : Act) (w : World), checkLex ops listed l = true → wpLex P ops Q S l a w → wpAnyH P .any ops Q S l.length listed a w := by
  intro l
  induction l with
  | nil =>
    intro listed a w hc h
    exact ⟨by simpa [checkLex] using hc, h⟩
  | cons p l ih =>
    obtain ⟨i, b⟩ := p
    intro listed a w hc h
    simp only [checkLex, Bool.and_eq_true] at hc
    obtain ⟨hc1, hc2⟩ := hc
    change lexOp P ops Q S i b (wpLex P ops Q S l) a w at h
    unfold lexOp at h
    cases ho : ops[i]? with
    | none => rw [ho] at h; exact h.elim
    | some o =>
      rw [ho] at h
      simp only at h
      cases b with
      | true =>
        simp only [if_true, Bool.and_eq_true] at hc1
        obtain ⟨hf, hr⟩ := hc1
        by_cases hw : Region.wanted o (yielded ops a.tmps) = true
        · rw [if_pos hw] at h
          obtain ⟨v, h1, h2, h3⟩ := h
          exact wpAnyH_take ho hs hf hr (fun c a w => hQ c a _ _ w) (.inl ⟨hw, h1⟩) h2 (ih _ _ _ hc2 h3)
        · rw [if_neg hw] at h
          exact wpAnyH_take ho hs hf hr (fun c a w => hQ c a _ _ w) (.inr ⟨by simpa using hw, rfl⟩) h.1 (ih _ _ _ hc2 h.2)
      | false =>
        simp only [Bool.false_eq_true, if_false] at hc1
        have hr : Region.ready .any ops listed = [i] := by simpa using hc1
        refine wpAnyH_all hr (by simp) (fun j hj => ?_)
        obtain rfl : j = i := by simpa using hj
        unfold wpOp
        rw [ho]
        simp only
        by_cases hw : Region.wanted o (yielded ops a.tmps) = true
        · rw [if_pos hw] at h
          simp only [hw, if_true]
          exact .inl (Oper.wp_mono (fun a' w' h' => ⟨h'.1, ih _ _ _ hc2 h'.2⟩) h)
        · rw [if_neg hw] at h
          simp only [hw]
          exact ⟨h.1, ih _ _ _ hc2 h.2⟩
theorem wp_region_lex {P : Program} {id : Nat} {ops : Array Oper} {Q : Exit → Act → World → Prop} {a : Act} {w : World} (S : World → Prop) (l : List (Nat × Bool)) (hm : P.follows .mixedOrders = true)
    (hc : (Region.noSelect ops && (l.length == ops.size) && checkLex ops (Array.replicate ops.size false) l) = true) (hQ : ∀ c a d v w, Q (.panic c) (a.put d v) w → Q (.panic c) a w)
    (h : wpLex P ops Q S l a w.drew) : (Code.region id ops true).wp P Q a w := by
  simp only [Bool.and_eq_true, beq_iff_eq] at hc
  obtain ⟨⟨hs, hl⟩, hk⟩ := hc
  have := lex_sound (P := P) (Q := Q) (S := S) hs hQ l _ a _ hk h
  rw [hl] at this
  exact wp_region_held hm this
theorem lex_step {P : Program} {ops : Array Oper} {Q : Exit → Act → World → Prop} {S : World → Prop} {i : Nat} {b : Bool} {l : List (Nat × Bool)} {a : Act} {w : World}
    (h : ∀ K : Act → World → Prop, (∀ a w, wpLex P ops Q S l a w → K a w) → lexOp P ops Q S i b K a w) : wpLex P ops Q S ((i, b) :: l) a w := h _ (fun _ _ h => h)
theorem lex_nil {P : Program} {ops : Array Oper} {Q : Exit → Act → World → Prop} {S : World → Prop} {a : Act} {w : World} (h : Q .normal a w) : wpLex P ops Q S [] a w := h
/-- The operation is looked up, its guard says yes. -/
theorem lex_take {P : Program} {ops : Array Oper} {Q : Exit → Act → World → Prop} {S : World → Prop} {i : Nat} {o : Oper} {K : Act → World → Prop} {a : Act} {w : World} (ho : ops[i]? = some o) (hw : Region.wanted o (yielded ops a.tmps) = true) (v : Value)
    (hv : ∀ w', S w' → (execOp a.eval o).run P w' = .ok (.value v) w') (hS : S w) (h : K (a.put o.dst v) w) : lexOp P ops Q S i true K a w := by
  unfold lexOp; rw [ho]; simp only []; rw [if_pos hw]; exact ⟨v, hv, hS, h⟩
theorem lex_alone {P : Program} {ops : Array Oper} {Q : Exit → Act → World → Prop} {S : World → Prop} {i : Nat} {o : Oper} {K : Act → World → Prop} {a : Act} {w : World} (ho : ops[i]? = some o) (hw : Region.wanted o (yielded ops a.tmps) = true)
    (h : o.wp P a w (fun a' w' => S w' ∧ K a' w') Q) : lexOp P ops Q S i false K a w := by
  unfold lexOp; rw [ho]; simp only []; rw [if_pos hw]; exact h
theorem lex_skip {P : Program} {ops : Array Oper} {Q : Exit → Act → World → Prop} {S : World → Prop} {i : Nat} {b : Bool} {o : Oper} {K : Act → World → Prop} {a : Act} {w : World} (ho : ops[i]? = some o) (hw : Region.wanted o (yielded ops a.tmps) = false)
    (hS : S w) (h : K (a.put o.dst undef) w) : lexOp P ops Q S i b K a w := by
  unfold lexOp; rw [ho]; simp only []; rw [if_neg (by rw [hw]; decide)]; exact ⟨hS, h⟩
end Go.Proofs.YtlpjcfiibbcdjaaGreatDoor
