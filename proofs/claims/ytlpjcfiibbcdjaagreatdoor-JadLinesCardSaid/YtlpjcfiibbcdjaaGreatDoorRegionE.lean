/- A region that draws its order and ends in one operation that waits for all the others (a store into a cell that the region reads): walked once, in an order of the prover's choosing; behind the last nothing has to hold. Over any program. -/
import Derived.Test.YtlpjcfiibbcdjaaGreatDoorRegion
import Derived.StillTail
namespace Go.Proofs.YtlpjcfiibbcdjaaGreatDoor
open Go.RowKit
section
variable {P : Program} {ops : Array Oper} {Q : Exit → Act → World → Prop} {md : Region.Mode} {S : World → Prop}
/-- Whatever order is picked; S holds behind each but the last. -/
def wpAnyE (P : Program) (md : Region.Mode) (ops : Array Oper) (Q : Exit → Act → World → Prop) (S : World → Prop) (n : Nat) : Nat → Array Bool → Act → World → Prop
  | 0, listed, a, w => Region.ready md ops listed = [] ∧ Q .normal a w
  | fuel + 1, listed, a, w => (Region.ready md ops listed = [] → Q .normal a w) ∧
    ∀ i ∈ Region.ready md ops listed, wpOp P ops Q i (fun a' w' => (i ≠ n → S w') ∧ wpAnyE P md ops Q S n fuel (listed.setIfInBounds i true) a' w') a w
theorem wpAny_of_E {n : Nat} : ∀ (fuel : Nat) (listed : Array Bool) (a : Act) (w : World), wpAnyE P md ops Q S n fuel listed a w → wpAny P md ops Q fuel listed a w
  | 0, _, _, _, h => h
  | fuel + 1, _, _, _, h => ⟨h.1, fun i hi => wpOp_mono (fun a' w' h' => wpAny_of_E fuel _ a' w' h'.2) (h.2 i hi)⟩
theorem wpAnyE_first {n i : Nat} {oi : Oper} {v : Value} (hsk : Region.sinkB md ops n = true) (hch : Region.chainB md ops n = true) (hn : ops.size = n + 1) (hin : i < n)
    (hi : ops[i]? = some oi) (hsel : ∀ (j : Nat) (o : Oper) cs b, ops[j]? = some o → o.op ≠ .select cs b)
    (hQ : ∀ c a w, Q (.panic c) (a.put oi.dst v) w → Q (.panic c) a w) :
    ∀ (fuel : Nat) (listed : Array Bool) (a : Act) (w : World), HeadInv md ops n listed →
      (∀ j oj, ops[j]? = some oj → j ≠ i → listed.getD j true = false → (∀ e ∈ oj.after, Region.binds md e = true → e.on ≠ i) → oi.apart ops oj = true) →
      i ∈ Region.ready md ops listed → YieldsIf P ops S oi v a → S w →
      wpAnyE P md ops Q S n fuel (listed.setIfInBounds i true) (a.put oi.dst v) w → wpAnyE P md ops Q S n (fuel + 1) listed a w := by
  intro fuel
  induction fuel with
  | zero =>
    intro listed a w _ _ hr hy hS H
    refine ⟨fun h => (by rw [h] at hr; cases hr), fun j hj => ?_⟩
    by_cases hji : j = i
    · subst hji; exact hy.wpOp hi hS ⟨fun _ => hS, H⟩
    · have := ready_mono hj hji
      rw [H.1] at this
      cases this
  | succ fuel ih =>
    intro listed a w inv hfree hr hy hS H
    refine ⟨fun h => (by rw [h] at hr; cases hr), fun j hj => ?_⟩
    by_cases hji : j = i
    · subst hji; exact hy.wpOp hi hS ⟨fun _ => hS, H⟩
    · have h1 := H.2 j (ready_mono hj hji)
      obtain ⟨hjun, oj, hoj, hall⟩ := mem_ready.1 hj
      have hnot : ∀ e ∈ oj.after, Region.binds md e = true → e.on ≠ i := fun e he hb heq => by
        have h1 := hall e he hb
        have h0 := (mem_ready.1 hr).1
        rw [heq, getD_both h0] at h1
        cases h1
      have hjs : j < ops.size := (Array.getElem?_eq_some_iff.1 hoj).1
      have hjn : j ≠ n := fun e => tail_waits hsk hch (by omega) inv (n - i) i rfl hin (mem_ready.1 hr).1 j (by omega) hj
      have h2 := wpOp_putIf hoj (hfree j oj hoj hji hjun hnot) (fun cs b => hsel i oi cs b hi) (fun cs b => hsel j oj cs b hoj) hQ hy h1
      have hfree' : ∀ k ok, ops[k]? = some ok → k ≠ i → (listed.setIfInBounds j true).getD k true = false →
          (∀ e ∈ ok.after, Region.binds md e = true → e.on ≠ i) → oi.apart ops ok = true := fun k ok hk hki hun hno => by
        refine hfree k ok hk hki ?_ hno
        by_cases hjk : j = k
        · subst hjk; exact hjun
        · rw [getD_set_ne true hjk] at hun; exact hun
      refine wpOp_mono (fun a' w' h3 => ⟨fun _ => h3.2.1 hjn, ih (listed.setIfInBounds j true) a' w' (inv.set hj (by omega)) hfree' (ready_mono hr (Ne.symm hji)) h3.1 (h3.2.1 hjn) ?_⟩) h2
      rw [Array.setIfInBounds_comm _ _ hji]
      exact h3.2.2
/-- The last operation. -/
def lastOp (P : Program) (ops : Array Oper) (Q : Exit → Act → World → Prop) (n : Nat) (a : Act) (w : World) : Prop :=
  match ops[n]? with
  | none => False
  | some o => if Region.wanted o (yielded ops a.tmps) = true then o.wp P a w (fun a' w' => Q .normal a' w') Q else Q .normal (a.put o.dst undef) w
def wpLexE (P : Program) (ops : Array Oper) (Q : Exit → Act → World → Prop) (S : World → Prop) (n : Nat) : List (Nat × Bool) → Act → World → Prop
  | [], a, w => lastOp P ops Q n a w
  | (i, b) :: l, a, w => lexOp P ops Q S i b (wpLexE P ops Q S n l) a w
def checkLexE (ops : Array Oper) (n : Nat) : Array Bool → List (Nat × Bool) → Bool
  | listed, [] => Region.ready .any ops listed == [n] && (Region.ready .any ops (listed.setIfInBounds n true)).isEmpty
  | listed, (i, b) :: l => decide (i < n) && (if b then Region.free .any ops listed i && (Region.ready .any ops listed).contains i else Region.ready .any ops listed == [i]) && checkLexE ops n (listed.setIfInBounds i true) l
theorem lexE_sound {n : Nat} (hs : Region.noSelect ops = true) (hQ : ∀ c a d v w, Q (.panic c) (a.put d v) w → Q (.panic c) a w) (hsk : Region.sinkB .any ops n = true) (hch : Region.chainB .any ops n = true) (hn : ops.size = n + 1) :
    ∀ (l : List (Nat × Bool)) (listed : Array Bool) (a : Act) (w : World), HeadInv .any ops n listed → checkLexE ops n listed l = true → wpLexE P ops Q S n l a w → wpAnyE P .any ops Q S n (l.length + 1) listed a w := by
  intro l
  induction l with
  | nil =>
    intro listed a w inv hc h
    simp only [checkLexE, Bool.and_eq_true, beq_iff_eq] at hc
    refine ⟨fun h0 => (by rw [hc.1] at h0; cases h0), fun j hj => ?_⟩
    rw [hc.1] at hj
    obtain rfl : j = n := by simpa using hj
    change lastOp P ops Q j a w at h
    unfold lastOp at h
    unfold wpOp
    cases ho : ops[j]? with
    | none => rw [ho] at h; exact h.elim
    | some o =>
      rw [ho] at h
      simp only at h ⊢
      by_cases hw : Region.wanted o (yielded ops a.tmps) = true
      · rw [if_pos hw] at h
        simp only [hw, if_true]
        exact .inl (Oper.wp_mono (fun a' w' h' => ⟨fun hne => absurd rfl hne, by simpa using hc.2, h'⟩) h)
      · rw [if_neg hw] at h
        simp only [hw]
        exact ⟨fun hne => absurd rfl hne, by simpa using hc.2, h⟩
  | cons p l ih =>
    obtain ⟨i, b⟩ := p
    intro listed a w inv hc h
    simp only [checkLexE, Bool.and_eq_true, decide_eq_true_eq] at hc
    obtain ⟨⟨hin, hc1⟩, hc2⟩ := hc
    change lexOp P ops Q S i b (wpLexE P ops Q S n l) a w at h
    unfold lexOp at h
    cases ho : ops[i]? with
    | none => rw [ho] at h; exact h.elim
    | some o =>
      rw [ho] at h
      simp only at h
      cases b with
      | true =>
        simp only [if_true, Bool.and_eq_true] at hc1
        obtain ⟨hf, hr⟩ := hc1
        have hr' : i ∈ Region.ready .any ops listed := by simpa using hr
        by_cases hw : Region.wanted o (yielded ops a.tmps) = true
        · rw [if_pos hw] at h
          obtain ⟨v, h1, h2, h3⟩ := h
          exact wpAnyE_first hsk hch hn hin ho (Region.noSelect_spec hs) (fun c a w => hQ c a _ _ w) _ listed a w inv (Region.free_spec ho hf) hr' (.inl ⟨hw, h1⟩) h2 (ih _ _ _ (inv.set hr' hin) hc2 h3)
        · rw [if_neg hw] at h
          exact wpAnyE_first hsk hch hn hin ho (Region.noSelect_spec hs) (fun c a w => hQ c a _ _ w) _ listed a w inv (Region.free_spec ho hf) hr' (.inr ⟨by simpa using hw, rfl⟩) h.1 (ih _ _ _ (inv.set hr' hin) hc2 h.2)
      | false =>
        simp only [Bool.false_eq_true, if_false, beq_iff_eq] at hc1
        refine ⟨fun h0 => (by rw [hc1] at h0; cases h0), fun j hj => ?_⟩
        have hj0 := hj
        rw [hc1] at hj
        obtain rfl : j = i := by simpa using hj
        unfold wpOp
        rw [ho]
        simp only
        by_cases hw : Region.wanted o (yielded ops a.tmps) = true
        · rw [if_pos hw] at h
          simp only [hw, if_true]
          exact .inl (Oper.wp_mono (fun a' w' h' => ⟨fun _ => h'.1, ih _ _ _ (inv.set hj0 hin) hc2 h'.2⟩) h)
        · rw [if_neg hw] at h
          simp only [hw]
          exact ⟨fun _ => h.1, ih _ _ _ (inv.set hj0 hin) hc2 h.2⟩
theorem wp_region_lexE {id : Nat} {a : Act} {w : World} (S : World → Prop) (n : Nat) (l : List (Nat × Bool)) (hm : P.follows .mixedOrders = true)
    (hc : (Region.noSelect ops && (ops.size == n + 1) && (l.length == n) && Region.sinkB .any ops n && Region.chainB .any ops n && checkLexE ops n (Array.replicate ops.size false) l) = true) (hQ : ∀ c a d v w, Q (.panic c) (a.put d v) w → Q (.panic c) a w)
    (h : wpLexE P ops Q S n l a w.drew) : (Code.region id ops true).wp P Q a w := by
  simp only [Bool.and_eq_true, beq_iff_eq] at hc
  obtain ⟨⟨⟨⟨⟨hs, hl⟩, hl2⟩, hsk⟩, hch⟩, hk⟩ := hc
  have inv0 : HeadInv .any ops n (Array.replicate ops.size false) :=
    ⟨by simp, fun j oj _ hl => (by rw [getD_replicate_false] at hl; cases hl), fun t _ ht => getD_in (by simpa using ht) (getD_replicate_false _ _)⟩
  have := lexE_sound (P := P) (Q := Q) (S := S) hs hQ hsk hch hl l _ a _ inv0 hk h
  rw [hl2, ← hl] at this
  exact wp_region_any hm (wpAny_of_E _ _ _ _ this)
theorem lexE_step {n i : Nat} {b : Bool} {l : List (Nat × Bool)} {a : Act} {w : World}
    (h : ∀ K : Act → World → Prop, (∀ a w, wpLexE P ops Q S n l a w → K a w) → lexOp P ops Q S i b K a w) : wpLexE P ops Q S n ((i, b) :: l) a w := h _ (fun _ _ h => h)
theorem lexE_last {n : Nat} {a : Act} {w : World} (h : lastOp P ops Q n a w) : wpLexE P ops Q S n [] a w := h
end
end Go.Proofs.YtlpjcfiibbcdjaaGreatDoor
