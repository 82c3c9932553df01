/- A region that draws its order, walked once: what only reads, and what makes memory but yields one value wherever S holds, comes in the order of the prover's choosing. Over any program. -/
import Derived.Test.YtechkdnoekffmaaQ03ScanTorn
import Derived.Test.YtechkdnoekffmaaQ07ScanTorn
import Derived.Deep.LoopGhost
import Derived.Deep.DeepCutAuto
namespace Go.Proofs.Ytechkdnoekffmaa
open Go.RowKit
/-- An operation whose run is r: it leaves v, and S holds behind it. -/
def Stirs (P : Program) (S : World → Prop) (v : Value) : Result Next → Prop
  | .ok (.value u) w' => u = v ∧ S w'
  | .ok (.enter f args) w' => Calls P f args w' fun e w'' => e = .returned v ∧ S w''
  | _ => False
def StirsIf (P : Program) (ops : Array Oper) (S : World → Prop) (o : Oper) (v : Value) (a : Act) : Prop :=
  (Region.wanted o (yielded ops a.tmps) = true ∧ ∀ w, S w → Stirs P S v ((execOp a.eval o).run P w)) ∨
  (Region.wanted o (yielded ops a.tmps) = false ∧ v = undef)
section
variable {P : Program} {ops : Array Oper} {Q : Exit → Act → World → Prop} {md : Region.Mode} {S : World → Prop}
theorem StirsIf.of_same {o : Oper} {v : Value} {a a' : Act} (hy : StirsIf P ops S o v a) (he : execOp a'.eval o = execOp a.eval o)
    (hw : Region.wanted o (yielded ops a'.tmps) = Region.wanted o (yielded ops a.tmps)) : StirsIf P ops S o v a' := by
  unfold StirsIf at *
  rw [he, hw]
  exact hy
theorem Stirs.wp {o : Oper} {v : Value} {a : Act} {w : World} {K : Act → World → Prop} (h : Stirs P S v ((execOp a.eval o).run P w)) (hK : ∀ w', S w' → K (a.put o.dst v) w') : o.wp P a w K Q := by
  unfold Oper.wp
  generalize (execOp a.eval o).run P w = r at *
  cases r with
  | ok n w' =>
    cases n <;> simp only [Stirs, Oper.upon] at h ⊢
    case value u => obtain ⟨rfl, hs⟩ := h; exact hK _ hs
    case enter f args =>
      refine Calls.mono h fun e w'' he => ?_
      obtain ⟨rfl, hs⟩ := he
      exact hK _ hs
  | halt x w' => cases x <;> simp only [Stirs] at h
theorem StirsIf.wpOp {i : Nat} {o : Oper} {v : Value} {a : Act} (hi : ops[i]? = some o) (hy : StirsIf P ops S o v a)
    {K : Act → World → Prop} {w : World} (hS : S w) (h : ∀ w', S w' → K (a.put o.dst v) w') : wpOp P ops Q i K a w := by
  unfold Go.wpOp
  simp only [hi]
  rcases hy with ⟨hw, hv⟩ | ⟨hw, rfl⟩
  · simp only [hw, if_true]; exact .inl ((hv w hS).wp h)
  · simp only [hw, Bool.false_eq_true, if_false]; exact h w hS
/-- One operation of a stretch in which each yields one value wherever S holds. 'b' true: it only reads. -/
def stirOp (P : Program) (ops : Array Oper) (S : World → Prop) (i : Nat) (b : Bool) (K : Act → Prop) (a : Act) : Prop :=
  match ops[i]? with
  | none => False
  | some o =>
    if Region.wanted o (yielded ops a.tmps) = true then
      (match b with
        | true => ∃ v, (∀ w', S w' → (execOp a.eval o).run P w' = .ok (.value v) w') ∧ K (a.put o.dst v)
        | false => ∃ v, (∀ w', S w' → Stirs P S v ((execOp a.eval o).run P w')) ∧ K (a.put o.dst v))
    else K (a.put o.dst undef)
def wpStir (P : Program) (ops : Array Oper) (Q : Exit → Act → World → Prop) (S : World → Prop) : List (Nat × Bool) → Act → Prop
  | [], a => ∀ w, S w → Q .normal a w
  | (i, b) :: l, a => stirOp P ops S i b (wpStir P ops Q S l) a
def wpStir1 (P : Program) (ops : Array Oper) (Q : Exit → Act → World → Prop) (S : World → Prop) : List Nat → Act → Prop
  | [], a => ∀ w, S w → Q .normal a w
  | i :: l, a => ∃ o v, ops[i]? = some o ∧ StirsIf P ops S o v a ∧ wpStir1 P ops Q S l (a.put o.dst v)
theorem wpStir_1 : ∀ (l : List (Nat × Bool)) (a : Act), wpStir P ops Q S l a → wpStir1 P ops Q S (l.map (·.1)) a := by
  intro l
  induction l with
  | nil => exact fun a h => h
  | cons p l ih =>
    obtain ⟨i, b⟩ := p
    intro a h
    change stirOp P ops S i b (wpStir P ops Q S l) a at h
    unfold stirOp at h
    cases ho : ops[i]? with
    | none => rw [ho] at h; exact h.elim
    | some o =>
      rw [ho] at h
      simp only at h
      by_cases hw : Region.wanted o (yielded ops a.tmps) = true
      · rw [if_pos hw] at h
        cases b with
        | true =>
          obtain ⟨v, h1, h2⟩ := h
          exact ⟨o, v, ho, .inl ⟨hw, fun w hs => by rw [h1 w hs]; exact ⟨rfl, hs⟩⟩, ih _ h2⟩
        | false =>
          obtain ⟨v, h1, h2⟩ := h
          exact ⟨o, v, ho, .inl ⟨hw, h1⟩, ih _ h2⟩
      · rw [if_neg hw] at h
        exact ⟨o, undef, ho, .inr ⟨by simpa using hw, rfl⟩, ih _ h⟩
def FreeP (ops : Array Oper) (listed : Array Bool) (i : Nat) : Prop :=
  ∀ oi, ops[i]? = some oi → ∀ j oj, ops[j]? = some oj → j ≠ i → listed.getD j true = false → (∀ e ∈ oj.after, Region.binds .any e = true → e.on ≠ i) → oi.apart ops oj = true
def CheckS (ops : Array Oper) : Array Bool → List Nat → Prop
  | listed, [] => Region.ready .any ops listed = []
  | listed, i :: l => i ∈ Region.ready .any ops listed ∧ FreeP ops listed i ∧ CheckS ops (listed.setIfInBounds i true) l
theorem FreeP.mono {listed : Array Bool} {i j : Nat} (h : FreeP ops listed i) : FreeP ops (listed.setIfInBounds j true) i := by
  intro oi hi k ok hk hki hun hno
  refine h oi hi k ok hk hki ?_ hno
  by_cases hjk : j = k
  · subst hjk
    by_cases hl : j < listed.size
    · simp [hl] at hun
    · rw [Array.setIfInBounds_eq_of_size_le (by omega)] at hun; exact hun
  · rw [getD_set_ne true hjk] at hun; exact hun
theorem stir_move (hs : Region.noSelect ops = true) : ∀ (l : List Nat) (listed : Array Bool) (j : Nat), CheckS ops listed l → j ∈ Region.ready .any ops listed →
    j ∈ l ∧ CheckS ops (listed.setIfInBounds j true) (l.erase j) ∧ ∀ a, wpStir1 P ops Q S l a → wpStir1 P ops Q S (j :: l.erase j) a := by
  intro l
  induction l with
  | nil => intro listed j hc hj; rw [show Region.ready .any ops listed = [] from hc] at hj; cases hj
  | cons i l ih =>
    intro listed j hc hj
    obtain ⟨hr, hf, hc'⟩ := hc
    by_cases hji : j = i
    · subst hji
      simp only [List.erase_cons_head]
      exact ⟨by simp, hc', fun a h => h⟩
    · obtain ⟨hjl, hcj, hmv⟩ := ih _ j hc' (ready_mono hj hji)
      have hij : (i == j) = false := by simp [Ne.symm hji]
      rw [List.erase_cons_tail (by rw [hij]; decide)]
      refine ⟨by simp [hjl], ⟨ready_mono hr (Ne.symm hji), hf.mono, ?_⟩, fun a h => ?_⟩
      · rw [Array.setIfInBounds_comm _ _ hji]; exact hcj
      · obtain ⟨oi, v, hoi, hyi, hrest⟩ := h
        obtain ⟨oj, u, hoj, hyj, hrest'⟩ := hmv _ hrest
        obtain ⟨hjun, oj', hoj', hall⟩ := mem_ready.1 hj
        obtain rfl : oj' = oj := by rw [hoj] at hoj'; exact (Option.some.inj hoj').symm
        have hnot : ∀ e ∈ oj'.after, Region.binds .any e = true → e.on ≠ i := fun e he hb heq => by
          have h1 := hall e he hb
          have h0 := (mem_ready.1 hr).1
          rw [heq] at h1
          rcases Nat.lt_or_ge i listed.size with h' | h'
          · simp [h'] at h0 h1; rw [h0] at h1; cases h1
          · simp [Array.getElem?_eq_none h'] at h1
        have hap := hf oi hoi j oj' hoj hji hjun hnot
        obtain ⟨h1, h2, h3⟩ := Oper.apart_spec hap
        have hsi : ∀ cs b, oi.op ≠ .select cs b := fun cs b => Region.noSelect_spec hs i oi cs b hoi
        have hsj : ∀ cs b, oj'.op ≠ .select cs b := fun cs b => Region.noSelect_spec hs j oj' cs b hoj
        have hyj' : StirsIf P ops S oj' u a := hyj.of_same (execOp_put oj' hsj a oi.dst v h1).symm (wanted_put oj' a oi.dst v h1).symm
        refine ⟨oj', u, hoj, hyj', oi, v, hoi, hyi.of_same (execOp_put oi hsi a oj'.dst u h3) (wanted_put oi a oj'.dst u h3), ?_⟩
        rw [← Act.put_comm a v u h2]
        exact hrest'
theorem stir_sound (hs : Region.noSelect ops = true) : ∀ (n : Nat) (l : List Nat) (listed : Array Bool) (a : Act), l.length = n → CheckS ops listed l → wpStir1 P ops Q S l a →
    ∀ w, S w → wpAnyH P .any ops Q S n listed a w := by
  intro n
  induction n with
  | zero =>
    intro l listed a hl hc h w hS
    obtain rfl := List.eq_nil_of_length_eq_zero hl
    exact ⟨hc, h w hS⟩
  | succ n ih =>
    intro l listed a hl hc h w hS
    refine ⟨fun h0 => ?_, fun j hj => ?_⟩
    · cases l with
      | nil => simp at hl
      | cons i l => obtain ⟨hr, _⟩ := hc; rw [h0] at hr; cases hr
    · obtain ⟨hjl, hcj, hmv⟩ := stir_move (P := P) (Q := Q) (S := S) hs l listed j hc hj
      obtain ⟨o, v, ho, hy, hrest⟩ := hmv a h
      refine hy.wpOp ho hS fun w' hs' => ⟨hs', ?_⟩
      exact ih (l.erase j) _ _ (by rw [List.length_erase_of_mem hjl]; omega) hcj hrest w' hs'
/-- An order: 'step' as in XRegionT; 'stir': from here on each yields one value wherever S holds. -/
inductive LexS where
  | stir : List (Nat × Bool) → LexS
  | step : Nat → Bool → LexS → LexS
  | fork : Nat → LexS → Nat → LexS → LexS
  | fork3 : Nat → LexS → Nat → LexS → Nat → LexS → LexS
def wpLexS (P : Program) (ops : Array Oper) (Q : Exit → Act → World → Prop) : LexS → (World → Prop) → Act → World → Prop
  | .stir l, S, a, w => ∃ S' : World → Prop, (∀ x, S' x → S x) ∧ S' w ∧ wpStir P ops Q S' l a
  | .step i b l, S, a, w => ∃ S' : World → Prop, (∀ x, S' x → S x) ∧ lexOp P ops Q S' i b (wpLexS P ops Q l S') a w
  | .fork i l j m, S, a, w => ∃ S' : World → Prop, (∀ x, S' x → S x) ∧ lexOp P ops Q S' i false (wpLexS P ops Q l S') a w ∧ lexOp P ops Q S' j false (wpLexS P ops Q m S') a w
  | .fork3 i l j m k r, S, a, w => ∃ S' : World → Prop, (∀ x, S' x → S x) ∧ lexOp P ops Q S' i false (wpLexS P ops Q l S') a w ∧ lexOp P ops Q S' j false (wpLexS P ops Q m S') a w ∧ lexOp P ops Q S' k false (wpLexS P ops Q r S') a w
def checkStir (ops : Array Oper) : Array Bool → List (Nat × Bool) → Bool
  | listed, [] => (Region.ready .any ops listed).isEmpty
  | listed, (i, _) :: l => Region.free .any ops listed i && (Region.ready .any ops listed).contains i && checkStir ops (listed.setIfInBounds i true) l
def checkS (ops : Array Oper) : Nat → Array Bool → LexS → Bool
  | n, listed, .stir l => (l.length == n) && checkStir ops listed l
  | n + 1, listed, .step i b l => (if b then Region.free .any ops listed i && (Region.ready .any ops listed).contains i else Region.ready .any ops listed == [i]) && checkS ops n (listed.setIfInBounds i true) l
  | n + 1, listed, .fork i l j m => (Region.ready .any ops listed == [i, j]) && checkS ops n (listed.setIfInBounds i true) l && checkS ops n (listed.setIfInBounds j true) m
  | n + 1, listed, .fork3 i l j m k r => (Region.ready .any ops listed == [i, j, k]) && checkS ops n (listed.setIfInBounds i true) l && checkS ops n (listed.setIfInBounds j true) m && checkS ops n (listed.setIfInBounds k true) r
  | _, _, _ => false
theorem checkStir_P : ∀ (l : List (Nat × Bool)) (listed : Array Bool), checkStir ops listed l = true → CheckS ops listed (l.map (·.1)) := by
  intro l
  induction l with
  | nil => intro listed h; show Region.ready .any ops listed = []; simpa [checkStir] using h
  | cons p l ih =>
    obtain ⟨i, b⟩ := p
    intro listed h
    simp only [checkStir, Bool.and_eq_true] at h
    obtain ⟨⟨hf, hr⟩, hc⟩ := h
    exact ⟨by simpa using hr, fun oi hoi => Region.free_spec hoi hf, ih _ hc⟩
theorem lexS_sound (hs : Region.noSelect ops = true) (hQ : ∀ c a d v w, Q (.panic c) (a.put d v) w → Q (.panic c) a w) :
    ∀ (l : LexS) (S : World → Prop) (n : Nat) (listed : Array Bool) (a : Act) (w : World), checkS ops n listed l = true → wpLexS P ops Q l S a w → wpAnyH P .any ops Q S n listed a w := by
  intro l
  induction l with
  | stir l =>
    intro S n listed a w hc h
    have hc' : ((l.length == n) && checkStir ops listed l) = true := by cases n <;> exact hc
    simp only [Bool.and_eq_true, beq_iff_eq] at hc'
    obtain ⟨hl, hk⟩ := hc'
    obtain ⟨S', hSS, hw, h⟩ := h
    exact wpAnyH_mono hSS _ _ _ _ (stir_sound hs n (l.map (·.1)) listed a (by simpa using hl) (checkStir_P _ _ hk) (wpStir_1 _ _ h) w hw)
  | step i b l ih =>
    intro S n listed a w hc h
    cases n with
    | zero => simp [checkS] at hc
    | succ n =>
    simp only [checkS, Bool.and_eq_true] at hc
    obtain ⟨hc1, hc2⟩ := hc
    obtain ⟨S', hSS, h⟩ := h
    refine wpAnyH_mono hSS _ _ _ _ ?_
    unfold lexOp at h
    cases ho : ops[i]? with
    | none => rw [ho] at h; exact h.elim
    | some o =>
      rw [ho] at h
      simp only at h
      cases b with
      | true =>
        simp only [if_true, Bool.and_eq_true] at hc1
        obtain ⟨hf, hr⟩ := hc1
        by_cases hw : Region.wanted o (yielded ops a.tmps) = true
        · rw [if_pos hw] at h
          obtain ⟨v, h1, h2, h3⟩ := h
          exact wpAnyH_take ho hs hf hr (fun c a w => hQ c a _ _ w) (.inl ⟨hw, h1⟩) h2 (ih _ _ _ _ _ hc2 h3)
        · rw [if_neg hw] at h
          exact wpAnyH_take ho hs hf hr (fun c a w => hQ c a _ _ w) (.inr ⟨by simpa using hw, rfl⟩) h.1 (ih _ _ _ _ _ hc2 h.2)
      | false =>
        simp only [Bool.false_eq_true, if_false] at hc1
        have hr : Region.ready .any ops listed = [i] := by simpa using hc1
        refine wpAnyH_all hr (by simp) (fun j hj => ?_)
        obtain rfl : j = i := by simpa using hj
        unfold wpOp
        rw [ho]
        simp only
        by_cases hw : Region.wanted o (yielded ops a.tmps) = true
        · rw [if_pos hw] at h
          simp only [hw, if_true]
          exact .inl (Oper.wp_mono (fun a' w' h' => ⟨h'.1, ih _ _ _ _ _ hc2 h'.2⟩) h)
        · rw [if_neg hw] at h
          simp only [hw]
          exact ⟨h.1, ih _ _ _ _ _ hc2 h.2⟩
  | fork i l j m ih1 ih2 =>
    intro S n listed a w hc h
    cases n with
    | zero => simp [checkS] at hc
    | succ n =>
    simp only [checkS, Bool.and_eq_true] at hc
    obtain ⟨⟨hc1, hc2⟩, hc3⟩ := hc
    have hr : Region.ready .any ops listed = [i, j] := by simpa using hc1
    obtain ⟨S', hSS, h1, h2⟩ := h
    refine wpAnyH_mono hSS _ _ _ _ ?_
    refine wpAnyH_all hr (by simp) (fun k hk => ?_)
    have hk' : k = i ∨ k = j := by simpa using hk
    rcases hk' with rfl | rfl
    · unfold lexOp at h1
      cases ho : ops[k]? with
      | none => rw [ho] at h1; exact h1.elim
      | some o =>
        rw [ho] at h1
        simp only at h1
        unfold wpOp
        rw [ho]
        simp only
        by_cases hw : Region.wanted o (yielded ops a.tmps) = true
        · rw [if_pos hw] at h1
          simp only [hw, if_true]
          exact .inl (Oper.wp_mono (fun a' w' h' => ⟨h'.1, ih1 _ _ _ _ _ hc2 h'.2⟩) h1)
        · rw [if_neg hw] at h1
          simp only [hw]
          exact ⟨h1.1, ih1 _ _ _ _ _ hc2 h1.2⟩
    · unfold lexOp at h2
      cases ho : ops[k]? with
      | none => rw [ho] at h2; exact h2.elim
      | some o =>
        rw [ho] at h2
        simp only at h2
        unfold wpOp
        rw [ho]
        simp only
        by_cases hw : Region.wanted o (yielded ops a.tmps) = true
        · rw [if_pos hw] at h2
          simp only [hw, if_true]
          exact .inl (Oper.wp_mono (fun a' w' h' => ⟨h'.1, ih2 _ _ _ _ _ hc3 h'.2⟩) h2)
        · rw [if_neg hw] at h2
          simp only [hw]
          exact ⟨h2.1, ih2 _ _ _ _ _ hc3 h2.2⟩
  | fork3 i l j m k r ih1 ih2 ih3 =>
    intro S n listed a w hc h
    cases n with
    | zero => simp [checkS] at hc
    | succ n =>
    simp only [checkS, Bool.and_eq_true] at hc
    obtain ⟨⟨⟨hc1, hc2⟩, hc3⟩, hc4⟩ := hc
    have hr : Region.ready .any ops listed = [i, j, k] := by simpa using hc1
    obtain ⟨S', hSS, h1, h2, h3⟩ := h
    refine wpAnyH_mono hSS _ _ _ _ ?_
    have one : ∀ (x : Nat) (y : LexS), (∀ (a : Act) (w : World), wpLexS P ops Q y S' a w → wpAnyH P .any ops Q S' n (listed.setIfInBounds x true) a w) → lexOp P ops Q S' x false (wpLexS P ops Q y S') a w →
        wpOp P ops Q x (fun a' w' => S' w' ∧ wpAnyH P .any ops Q S' n (listed.setIfInBounds x true) a' w') a w := by
      intro x y ih h1
      unfold lexOp at h1
      cases ho : ops[x]? with
      | none => rw [ho] at h1; exact h1.elim
      | some o =>
        rw [ho] at h1
        simp only at h1
        unfold wpOp
        rw [ho]
        simp only
        by_cases hw : Region.wanted o (yielded ops a.tmps) = true
        · rw [if_pos hw] at h1
          simp only [hw, if_true]
          exact .inl (Oper.wp_mono (fun a' w' h' => ⟨h'.1, ih _ _ h'.2⟩) h1)
        · rw [if_neg hw] at h1
          simp only [hw]
          exact ⟨h1.1, ih _ _ h1.2⟩
    refine wpAnyH_all hr (by simp) (fun x hx => ?_)
    have hx' : x = i ∨ x = j ∨ x = k := by simpa using hx
    rcases hx' with rfl | rfl | rfl
    · exact one _ l (fun a w h => ih1 _ _ _ _ _ hc2 h) h1
    · exact one _ m (fun a w h => ih2 _ _ _ _ _ hc3 h) h2
    · exact one _ r (fun a w h => ih3 _ _ _ _ _ hc4 h) h3
def LexS.of : List (Nat × Bool) → LexS → LexS
  | [], t => t
  | (i, b) :: l, t => .step i b (LexS.of l t)
theorem wp_region_lexS {id : Nat} {a : Act} {w : World} (S : World → Prop) (l : LexS) (hm : P.follows .mixedOrders = true)
    (hc : (Region.noSelect ops && checkS ops ops.size (Array.replicate ops.size false) l) = true) (hQ : ∀ c a d v w, Q (.panic c) (a.put d v) w → Q (.panic c) a w)
    (h : wpLexS P ops Q l S a w.drew) : (Code.region id ops true).wp P Q a w := by
  simp only [Bool.and_eq_true] at hc
  obtain ⟨hs, hk⟩ := hc
  exact wp_region_held hm (lexS_sound (P := P) (Q := Q) hs hQ l S _ _ a _ hk h)
theorem lexS_step {i : Nat} {b : Bool} {l : LexS} {a : Act} {w : World}
    (h : ∀ K : Act → World → Prop, (∀ a w, wpLexS P ops Q l S a w → K a w) → lexOp P ops Q S i b K a w) : wpLexS P ops Q (.step i b l) S a w := ⟨S, fun _ h => h, h _ (fun _ _ h => h)⟩
theorem lexS_fork {i j : Nat} {l m : LexS} {a : Act} {w : World}
    (h1 : ∀ K : Act → World → Prop, (∀ a w, wpLexS P ops Q l S a w → K a w) → lexOp P ops Q S i false K a w) (h2 : ∀ K : Act → World → Prop, (∀ a w, wpLexS P ops Q m S a w → K a w) → lexOp P ops Q S j false K a w) : wpLexS P ops Q (.fork i l j m) S a w :=
  ⟨S, fun _ h => h, h1 _ (fun _ _ h => h), h2 _ (fun _ _ h => h)⟩
theorem lexS_fork3 {i j k : Nat} {l m r : LexS} {a : Act} {w : World}
    (h1 : ∀ K : Act → World → Prop, (∀ a w, wpLexS P ops Q l S a w → K a w) → lexOp P ops Q S i false K a w) (h2 : ∀ K : Act → World → Prop, (∀ a w, wpLexS P ops Q m S a w → K a w) → lexOp P ops Q S j false K a w)
    (h3 : ∀ K : Act → World → Prop, (∀ a w, wpLexS P ops Q r S a w → K a w) → lexOp P ops Q S k false K a w) : wpLexS P ops Q (.fork3 i l j m k r) S a w :=
  ⟨S, fun _ h => h, h1 _ (fun _ _ h => h), h2 _ (fun _ _ h => h), h3 _ (fun _ _ h => h)⟩
theorem lexS_stir {l : List (Nat × Bool)} {a : Act} {w : World} (S' : World → Prop) (hSS : ∀ x, S' x → S x) (hS : S' w) (h : wpStir P ops Q S' l a) : wpLexS P ops Q (.stir l) S a w := ⟨S', hSS, hS, h⟩
/-- From here on more is known of the worlds. -/
theorem lexS_strong {l : LexS} {a : Act} {w : World} (S' : World → Prop) (hS : ∀ x, S' x → S x) (h : wpLexS P ops Q l S' a w) : wpLexS P ops Q l S a w := by
  cases l with
  | stir l => obtain ⟨S2, h2, h3⟩ := h; exact ⟨S2, fun x hx => hS x (h2 x hx), h3⟩
  | step i b l => obtain ⟨S2, h2, h3⟩ := h; exact ⟨S2, fun x hx => hS x (h2 x hx), h3⟩
  | fork i l j m => obtain ⟨S2, h2, h3⟩ := h; exact ⟨S2, fun x hx => hS x (h2 x hx), h3⟩
  | fork3 i l j m k r => obtain ⟨S2, h2, h3⟩ := h; exact ⟨S2, fun x hx => hS x (h2 x hx), h3⟩
theorem stir_step {i : Nat} {b : Bool} {l : List (Nat × Bool)} {a : Act}
    (h : ∀ K : Act → Prop, (∀ a, wpStir P ops Q S l a → K a) → stirOp P ops S i b K a) : wpStir P ops Q S ((i, b) :: l) a := h _ (fun _ h => h)
theorem stir_nil {a : Act} (h : ∀ w, S w → Q .normal a w) : wpStir P ops Q S [] a := h
theorem Stirs.call {v : Value} {f : FuncId} {args : Array Value} {w' : World} (h : Calls P f args w' fun e w'' => e = .returned v ∧ S w'') : Stirs P S v (.ok (.enter f args) w') := h
end
end Go.Proofs.Ytechkdnoekffmaa
/- scan: found records in memory. No condition. -/
namespace Go.Proofs.Ytechkdnoekffmaa
open Go.ChangeShapes Go.WideShapes Go.ChangeAt Go.RowKit
/-- A found record, as it lies in memory. -/
structure FV where
  pos : Nat
  kd : Nat
  tx : Nat
  kb : List UInt8
  a : Option Addr
  n : Nat
  cap : Nat
  ct : Nat
  bb : List UInt8
def FV.cells (f : FV) : List Value := [.int .i64 f.pos, .int .i64 f.kd, .int .u32 f.tx, .string ⟨f.kb.toArray⟩, .slice f.a f.n f.cap, .int .i64 f.ct]
theorem FV.cells_length (f : FV) : f.cells.length = 6 := rfl
/-- The same, but for where the blob lies. -/
def FV.same (f g : FV) : Prop := f.pos = g.pos ∧ f.kd = g.kd ∧ f.tx = g.tx ∧ f.kb = g.kb ∧ f.ct = g.ct ∧ f.bb = g.bb
/-- A blob that no row of found records from block B on meets. -/
def BlobAt (w : World) (B : Nat) (f : FV) : Prop := 0 < f.n → ∃ b off, f.a = some ⟨b, off, none⟩ ∧ (b < B ∨ ∃ cur fr, w.heap[b]? = some (.cells cur 5 fr))
/-- A slice of found records of the call's own. -/
structure Founds (w : World) (B : Nat) (v : Value) (k : Nat) (F : List FV) : Prop where
  own : w.ownsRow B 31 6 v k (F.flatMap FV.cells)
  len : F.length = k
  sl : ∀ f ∈ F, Sl encB w f.a f.n f.bb
  cap : ∀ f ∈ F, f.n ≤ f.cap
  blob : ∀ f ∈ F, BlobAt w B f
theorem BlobAt.below {w w' : World} {B : Nat} {f : FV} (h : BlobAt w B f) (hb : Below w.heap.size w w') : BlobAt w' B f := by
  intro hn
  obtain ⟨b, off, ha, h1⟩ := h hn
  refine ⟨b, off, ha, ?_⟩
  rcases h1 with h1 | ⟨cur, fr, h1⟩
  · exact .inl h1
  · exact .inr ⟨cur, fr, by rw [hb.block b (Array.getElem?_eq_some_iff.1 h1).1]; exact h1⟩
theorem Founds.below {w w' : World} {B : Nat} {v : Value} {k : Nat} {F : List FV} (h : Founds w B v k F) (hb : Below w.heap.size w w') : Founds w' B v k F :=
  ⟨own_below h.own hb, h.len, fun f hf => (h.sl f hf).below hb, h.cap, fun f hf => (h.blob f hf).below hb⟩
theorem Founds.nil (w : World) (B : Nat) : Founds w B (.slice none 0 0) 0 [] := ⟨World.ownsRow_nil _ _ _ _, rfl, (fun f hf => by cases hf), (fun f hf => by cases hf), (fun f hf => by cases hf)⟩
/-- A blob stays while a row of found records turns. -/
theorem blob_kept {w w' : World} {B : Nat} {v : Value} {k : Nat} {xs : List Value} {f : FV} (ho : w.ownsRow B 31 6 v k xs) (hg : w.grownBy w' v.ownBlock) (hs : Sl encB w f.a f.n f.bb) (hb : BlobAt w B f) : Sl encB w' f.a f.n f.bb ∧ BlobAt w' B f := by
  have key : ∀ b, b < w.heap.size → (b < B ∨ ∃ cur fr, w.heap[b]? = some (.cells cur 5 fr)) → w'.heap[b]? = w.heap[b]? := by
    intro b hlt h1
    refine hg.block b hlt ?_
    intro he
    rcases ho.2 with ⟨h2, _⟩ | ⟨g, cap, cur, hv, hB, hgg, _⟩
    · rw [h2] at he; cases he
    · rw [hv] at he
      have hbg : b = g := by simp [Value.ownBlock] at he; exact he
      subst hbg
      rcases h1 with h1 | ⟨c2, fr, h1⟩
      · omega
      · rw [hgg] at h1; cases h1
  constructor
  · refine ⟨hs.1, fun hn => ?_⟩
    obtain ⟨b, off, ha, hlt, hc⟩ := hs.2 hn
    obtain ⟨b', off', ha', h1⟩ := hb hn
    rw [ha] at ha'
    cases ha'
    refine ⟨b, off, ha, Nat.lt_of_lt_of_le hlt hg.size, fun i hi => ?_⟩
    rw [← hc i hi]
    unfold World.cell?
    rw [key b hlt h1]
  · intro hn
    obtain ⟨b, off, ha, h1⟩ := hb hn
    refine ⟨b, off, ha, ?_⟩
    rcases h1 with h1 | ⟨cur, fr, h1⟩
    · exact .inl h1
    · exact .inr ⟨cur, fr, by rw [key b (Array.getElem?_eq_some_iff.1 h1).1 (.inr ⟨cur, fr, h1⟩)]; exact h1⟩
theorem infoFound : (Try.prog.info? 31).map (fun i => (i.zero, i.size, i.bytes)) = some (some (.agg #[.int .i64 0, .int .i64 0, .int .u32 0, .string ⟨#[]⟩, .slice none 0 0, .int .i64 0]), 6, 72) := by kernel_rfl
theorem srcFound (w : World) (f : FV) (c : Nat) : Src Try.prog 6 25 (.slice (some ⟨w.heap.size, 0, none⟩) 1 c) 1 f.cells (w.alloc (.cells f.cells.toArray 31)) := by
  refine Src.ofSlice _ Try.underlying25 ⟨w.heap.size, 0, none⟩ 1 c _ rfl (fun j u hu => ?_) (fun u hu => ?_)
  · have hadd : (⟨w.heap.size, 0, none⟩ : Addr).add j = ⟨w.heap.size, j, none⟩ := by unfold Addr.add; split <;> simp_all
    rw [hadd, cell_of_row _ w.heap.size j _ _ _ (heap_alloc_last w _)]
    simpa using hu
  · simp [FV.cells] at hu
    rcases hu with rfl | rfl | rfl | rfl | rfl | rfl <;> rfl
theorem wpList_found {w : World} {ops : Array Oper} {rest : List Oper} {o : Oper} {a : Act} {Q : Exit → Act → World → Prop} (hgd : Region.wanted o (yielded ops a.tmps) = true) (s x : Operand)
    (ho : o.op = .call { callee := .builtin .append, args := #[s, x], argTypes := #[25, 25] })
    (B : Nat) (v : Value) (k : Nat) (F : List FV) (hv : a.eval s = v) (hF : Founds w B v k F) (f : FV) (c : Nat) (hy : a.eval x = .slice (some ⟨w.heap.size, 0, none⟩) 1 c)
    (hsl : Sl encB w f.a f.n f.bb) (hcap : f.n ≤ f.cap) (hbl : BlobAt w B f) (hk : k ≤ 65536) (hB : B ≤ w.heap.size)
    (h : ∀ v' w', Founds w' B v' (k + 1) (F ++ [f]) → Below B w w' → wpList Try.prog ops Q rest (a.put o.dst v') w') : wpList Try.prog ops Q (o :: rest) a (w.alloc (.cells f.cells.toArray 31)) := by
  obtain ⟨i0, hi, hz0, hz1, hz2⟩ := info_parts infoFound
  have hb : Below w.heap.size w (w.alloc (.cells f.cells.toArray 31)) := (Below.refl _ _).alloc (Nat.le_refl _) _
  have hF2 := hF.below hb
  refine wpList_append_src hgd s x 25 25 ho B 31 i0 _ 6 72 Try.underlying25 hi hz0 hz1 hz2 rfl v k _ hv hF2.own _ 1 f.cells hy (srcFound w f c) (by unfold maxLen; omega) (by omega) (by simp; omega) ?_
  intro v' w' hown hgr _
  have hlt : ∀ g ∈ F ++ [f], Sl encB (w.alloc (.cells f.cells.toArray 31)) g.a g.n g.bb ∧ BlobAt (w.alloc (.cells f.cells.toArray 31)) B g ∧ g.n ≤ g.cap := by
    intro g hg
    rcases List.mem_append.1 hg with hg | hg
    · exact ⟨hF2.sl g hg, hF2.blob g hg, hF2.cap g hg⟩
    · obtain rfl := List.mem_singleton.1 hg
      exact ⟨hsl.below hb, hbl.below hb, hcap⟩
  refine h v' w' ⟨by rw [List.flatMap_append]; simpa using hown, by simp [hF.len], fun g hg => (blob_kept hF2.own hgr (hlt g hg).1 (hlt g hg).2.1).1, fun g hg => (hlt g hg).2.2, fun g hg => (blob_kept hF2.own hgr (hlt g hg).1 (hlt g hg).2.1).2⟩ ?_
  exact ((Below.refl B w).alloc hB _).trans (below_app (Below.refl _ _) (by simp; omega) hF2.own hgr)
theorem flat_get {F : List FV} {j : Nat} (hj : j < F.length) (i : Nat) (hi : i < 6) : (F.flatMap FV.cells)[j * 6 + i]? = (F[j]'hj).cells[i]? := by
  induction F generalizing j with
  | nil => simp at hj
  | cons f F ih =>
    rw [List.flatMap_cons]
    cases j with
    | zero => rw [List.getElem?_append_left (by rw [FV.cells_length]; omega)]; simp
    | succ j =>
      rw [List.getElem?_append_right (by rw [FV.cells_length]; omega), FV.cells_length, show (j + 1) * 6 + i - 6 = j * 6 + i by omega, ih (by simpa using hj)]
      simp
/-- The cells of one of them. -/
theorem Founds.at {w : World} {B : Nat} {v : Value} {k : Nat} {F : List FV} (h : Founds w B v k F) (j : Nat) (hj : j < k) :
    ∃ g cap, v = .slice (some ⟨g, 0, none⟩) k cap ∧ B ≤ g ∧ k ≤ cap ∧ ∃ f ∈ F, F[j]? = some f ∧ w.cell? ⟨g, j * 6, none⟩ = some (.int .i64 f.pos) ∧ w.cell? ⟨g, j * 6 + 1, none⟩ = some (.int .i64 f.kd) ∧ w.cell? ⟨g, j * 6 + 2, none⟩ = some (.int .u32 f.tx) ∧
      w.cell? ⟨g, j * 6 + 3, none⟩ = some (.string ⟨f.kb.toArray⟩) ∧ w.cell? ⟨g, j * 6 + 4, none⟩ = some (.slice f.a f.n f.cap) ∧ w.cell? ⟨g, j * 6 + 5, none⟩ = some (.int .i64 f.ct) := by
  have hjF : j < F.length := by rw [h.len]; exact hj
  rcases h.own.2 with ⟨rfl, h2⟩ | ⟨g, cap, cur, rfl, hb, hg, hnc, hm, hs, ht⟩
  · have := h.own.1
    rw [h2] at this
    simp at this
    omega
  · have hc : ∀ i, i < 6 → w.cell? ⟨g, j * 6 + i, none⟩ = (F[j]'hjF).cells[i]? := fun i hi => by
      rw [h.own.cellAt (j * 6 + i) (by omega), flat_get hjF i hi]
    exact ⟨g, cap, rfl, hb, hnc, F[j]'hjF, List.getElem_mem _, List.getElem?_eq_getElem hjF, hc 0 (by omega), hc 1 (by omega), hc 2 (by omega), hc 3 (by omega), hc 4 (by omega), hc 5 (by omega)⟩
end Go.Proofs.Ytechkdnoekffmaa
/- scan: Same of found records; Scan of whole records. No condition. -/
namespace Go.Proofs.Ytechkdnoekffmaa
open Go.ChangeShapes Go.WideShapes Go.ChangeAt Go.RowKit
theorem Sl.ofOwnS {α : Type} {enc : α → Value} {w : World} {base : Nat} {e : TypeId} {a : Option Addr} {n c : Nat} {xs : List α} (h : w.ownsRow base e 1 (.slice a n c) n (xs.map enc)) : Sl enc w a n xs ∧ n ≤ c := by
  obtain ⟨a', c', he, hs, hc⟩ := Sl.ofOwn h
  cases he
  exact ⟨hs, hc⟩
theorem Sl.bytes_same {w : World} {f g : FV} (h : f.same g) (h1 : Sl encB w f.a f.n f.bb) (h2 : Sl encB w g.a g.n g.bb) : Sl encB w g.a g.n f.bb := by rw [h.2.2.2.2.2]; exact h2
theorem cell_below {w w' : World} (h : Below w.heap.size w w') {a : Addr} {v : Value} (hc : w.cell? a = some v) : w'.cell? a = some v := by
  have hlt : a.block < w.heap.size := by
    unfold World.cell? at hc
    cases hb : w.heap[a.block]? with
    | none => rw [hb] at hc; simp at hc
    | some o => exact (Array.getElem?_eq_some_iff.1 hb).1
  rw [h.cell hlt]
  exact hc
set_option maxRecDepth 100000 in
set_option maxHeartbeats 8000000 in
theorem Same6_yes (w : World) (B1 B2 : Nat) (v1 v2 : Value) (k : Nat) (F1 F2 : List FV) (h1 : Founds w B1 v1 k F1) (h2 : Founds w B2 v2 k F2) (hk : k ≤ 65536) (hs : ∀ (j : Nat) f g, F1[j]? = some f → F2[j]? = some g → f.same g) :
    Calls Try.prog 10 #[v1, v2] w fun e w' => e = .returned (.bool true) ∧ Below w.heap.size w w' := by
  have H1 := Lib.hid h1
  have H2 := Lib.hid h2
  have HS := Lib.hid hs
  obtain ⟨a1, c1, rfl⟩ : ∃ a c, v1 = .slice a k c := by
    rcases h1.own.2 with ⟨rfl, h0⟩ | ⟨g, cap, cur, rfl, _⟩
    · exact ⟨none, 0, by rw [h0]⟩
    · exact ⟨_, _, rfl⟩
  obtain ⟨a2, c2, rfl⟩ : ∃ a c, v2 = .slice a k c := by
    rcases h2.own.2 with ⟨rfl, h0⟩ | ⟨g, cap, cur, rfl, _⟩
    · exact ⟨none, 0, by rw [h0]⟩
    · exact ⟨_, _, rfl⟩
  clear h1 h2 hs
  go_enter Try.func10, Try.ntmps10
  go_wp2_with fail
  go_loopg [13] k (fun gn i wr => ∃ j : Nat, j ≤ k ∧ gn = k - j ∧ i = .int .i64 j ∧ Hid (Below w.heap.size w wr))
  case atStart => exact ⟨0, by omega, by omega, by go_num, Below.refl _ _⟩
  case round =>
    obtain ⟨j, hj, rfl, rfl, HB⟩ := hrel
    by_cases hlt : j < k
    · obtain ⟨g1, k1, e1, hg1, hc1, f, hf, hfj, p0, p1, p2, p3, p4, p5⟩ := (H1.out.below HB.out).at j hlt
      obtain ⟨g2, k2, e2, hg2, hc2, f', hf', hfj', q0, q1, q2, q3, q4, q5⟩ := (H2.out.below HB.out).at j hlt
      cases e1
      cases e2
      have hsm := HS.out j f f' hfj hfj'
      have S1 := ((H1.out.below HB.out).sl f hf)
      have S2 := Sl.bytes_same hsm S1 ((H2.out.below HB.out).sl f' hf')
      obtain ⟨m0, m1, m2, m3, m4, m5⟩ := hsm
      rw [← m0] at q0
      rw [← m1] at q1
      rw [← m2] at q2
      rw [← m3] at q3
      rw [← m4] at q5
      have HC := Lib.hid (show ∀ w', Below wr.heap.size wr w' → Calls Try.prog 17 #[recL f.kd f.tx f.kb f.a f.n f.cap f.ct, recL f.kd f.tx f.kb f'.a f'.n f'.cap f.ct] w' (fun e x => e = .returned (.bool true) ∧ Below wr.heap.size wr x) from fun w' hw =>
        (Same5_yes w' f.kd f.tx f.kb f.a f.n f.cap f.ct f.bb f'.a f'.n f'.cap (S1.below hw) (S2.below hw)).mono fun e x hx => ⟨hx.1, hw.trans (hx.2.mono hw.size)⟩)
      clear m0 m1 m2 m3 m4 m5 S1 S2 hf hf' hfj hfj'
      generalize f.pos = fp at *
      generalize f.kd = fk at *
      generalize f.tx = ft at *
      generalize f.kb = fb at *
      generalize f.ct = fc at *
      generalize f.a = fa at *
      generalize f.n = fn at *
      generalize f.cap = fcap at *
      generalize f'.a = ga at *
      generalize f'.n = gn at *
      generalize f'.cap = gcap at *
      unfold recL at HC
      have z1 : ((fp : Int) == (fp : Int)) = true := by simp
      have z2 : ((fp : Int) != (fp : Int)) = false := by simp
      have j0 : (0 : Int) ≤ j := by omega
      have j1 : (j : Int) < k := by omega
      obtain ⟨W, rfl⟩ : ∃ W, W = wr := ⟨_, rfl⟩
      go_upto_region 6 with fail
      have lp : ∀ p v, W.cell? p = some v → ∀ w', Below W.heap.size W w' → w'.cell? p = some v := fun p v h w' hb => cell_below hb h
      refine wp_region_lexS (Below W.heap.size W) (.stir [(0, true), (1, true), (2, true), (3, true), (4, true), (5, true), (6, true), (7, true), (8, true), (9, true), (10, true), (11, true), (12, true), (13, true), (14, true), (15, true), (16, true), (17, true), (18, true), (19, true), (20, true), (21, true), (22, false), (23, true), (24, true)]) (by kernel_rfl) (by kernel_rfl) (fun c a d v w h => by cases d <;> exact h) ?_
      have hSw : Below W.heap.size W W.drew := (Below.refl _ _).drew
      refine lexS_stir (Below W.heap.size W) (fun _ h => h) hSw ?_
      have p0' := lp _ _ p0
      have p1' := lp _ _ p1
      have p2' := lp _ _ p2
      have p3' := lp _ _ p3
      have p4' := lp _ _ p4
      have p5' := lp _ _ p5
      have q0' := lp _ _ q0
      have q1' := lp _ _ q1
      have q2' := lp _ _ q2
      have q3' := lp _ _ q3
      have q4' := lp _ _ q4
      have q5' := lp _ _ q5
      clear p0 p1 p2 p3 p4 p5 q0 q1 q2 q3 q4 q5 lp
      iterate 22
        refine stir_step (fun K hK => ?_)
        simp only [stirOp, List.getElem?_toArray, List.getElem?_cons_succ, List.getElem?_cons_zero]
        rw [if_pos (by rfl)]
        apply Exists.intro
        refine ⟨fun w' hS' => ?_, ?_⟩
        · first | (go_simp <;> with_reducible rfl) | (go_simp; go_bits; with_reducible rfl)
        go_simp
        try go_bits
        refine hK _ ?_
        clear hK K
      refine stir_step (fun K hK => ?_)
      simp only [stirOp, List.getElem?_toArray, List.getElem?_cons_succ, List.getElem?_cons_zero]
      rw [if_pos (by rfl)]
      apply Exists.intro
      refine ⟨fun w' hS' => ?_, ?_⟩
      · go_simp
        exact Stirs.call (Calls.mono (HC.out w' hS') fun e w'' h => ⟨h.1, (fun hb'' => hb'') h.2⟩)
      go_simp
      refine hK _ ?_
      clear hK K
      iterate 2
        refine stir_step (fun K hK => ?_)
        simp only [stirOp, List.getElem?_toArray, List.getElem?_cons_succ, List.getElem?_cons_zero]
        rw [if_pos (by rfl)]
        apply Exists.intro
        refine ⟨fun w' hS' => ?_, ?_⟩
        · first | (go_simp <;> with_reducible rfl) | (go_simp; go_bits; with_reducible rfl)
        go_simp
        try go_bits
        refine hK _ ?_
        clear hK K
      refine stir_nil (fun y hy => ?_)
      have HW := Lib.hid (HB.out.trans (hy.mono HB.out.size))
      clear hy p0' p1' p2' p3' p4' p5' q0' q1' q2' q3' q4' q5' HC
      go_wp2_with fail
      go_roundg (k - (j + 1))
      case measure => omega
      case rel => exact ⟨j + 1, by omega, rfl, by go_num, HW⟩
    · obtain rfl : j = k := by omega
      go_wp2_with fail
      go_ret
      exact ⟨rfl, HB.out⟩
end Go.Proofs.Ytechkdnoekffmaa
/- scan: what whole records tell, in plain words. No condition. -/
namespace Go.Proofs.Ytechkdnoekffmaa
open Go.ChangeShapes Go.WideShapes Go.ChangeAt Go.RowKit
/-- A record's fields. -/
structure RV where
  u : UInt8
  t : Nat
  kb : List UInt8
  bs : List UInt8
  c : Nat
def RV.bytes (r : RV) : List UInt8 := recB r.u r.t r.kb r.bs r.c ++ [0]
def RV.len (r : RV) : Nat := 11 + r.kb.length + r.bs.length + 5
theorem RV.bytes_length (r : RV) : r.bytes.length = r.len := by unfold RV.bytes RV.len; rw [List.length_append, recB_length]; simp; omega
def RV.ok (r : RV) : Prop := recOk r.u.toNat r.t r.kb.length r.bs.length r.c = true ∧ r.t < 4294967296
def total : List RV → Nat
  | [] => 0
  | r :: R => r.len + total R
theorem total_append (R S : List RV) : total (R ++ S) = total R + total S := by
  induction R with
  | nil => simp [total]
  | cons r R ih => simp [total, ih]; omega
theorem total_flat (R : List RV) : (R.flatMap RV.bytes).length = total R := by
  induction R with
  | nil => rfl
  | cons r R ih => rw [List.flatMap_cons, List.length_append, ih, RV.bytes_length]; rfl
/-- A found record tells a record that stands at p. -/
def RV.told (p : Nat) (r : RV) (f : FV) : Prop := f.pos = p ∧ f.kd = r.u.toNat ∧ f.tx = r.t ∧ f.kb = r.kb ∧ f.ct = r.c ∧ f.bb = r.bs
def Tells : Nat → List RV → List FV → Prop
  | _, [], [] => True
  | p, r :: R, f :: F => r.told p f ∧ Tells (p + r.len) R F
  | _, _, _ => False
theorem Tells.snoc {p : Nat} {R : List RV} {F : List FV} {r : RV} {f : FV} (h : Tells p R F) (hf : r.told (p + total R) f) : Tells p (R ++ [r]) (F ++ [f]) := by
  induction R generalizing p F with
  | nil =>
    cases F with
    | nil => exact ⟨by simpa [total] using hf, trivial⟩
    | cons g F => exact h.elim
  | cons q R ih =>
    cases F with
    | nil => exact h.elim
    | cons g F => exact ⟨h.1, ih h.2 (by rw [show p + q.len + total R = p + total (q :: R) by simp [total]; omega]; exact hf)⟩
theorem Tells.same {p : Nat} {R : List RV} {F G : List FV} (h : Tells p R F) (h' : Tells p R G) : ∀ (j : Nat) f g, F[j]? = some f → G[j]? = some g → f.same g := by
  induction R generalizing p F G with
  | nil =>
    cases F with
    | nil => intro j f g hf; simp at hf
    | cons _ _ => exact h.elim
  | cons r R ih =>
    cases F with
    | nil => exact h.elim
    | cons f F =>
      cases G with
      | nil => exact h'.elim
      | cons g G =>
        intro j x y hx hy
        cases j with
        | zero =>
          simp at hx hy
          subst hx hy
          obtain ⟨⟨a1, a2, a3, a4, a5, a6⟩, _⟩ := h
          obtain ⟨⟨b1, b2, b3, b4, b5, b6⟩, _⟩ := h'
          exact ⟨a1.trans b1.symm, a2.trans b2.symm, a3.trans b3.symm, a4.trans b4.symm, a5.trans b5.symm, a6.trans b6.symm⟩
        | succ j => exact ih h.2 h'.2 j x y (by simpa using hx) (by simpa using hy)
theorem take_total (R : List RV) (j : Nat) (hj : j < R.length) : total (R.take (j + 1)) = total (R.take j) + (R[j]).len := by
  rw [List.take_add_one, total_append, List.getElem?_eq_getElem hj]; simp [total]
/-- A header, whole records, and bytes 255. -/
def sectorB (hd : List UInt8) (R : List RV) (m : Nat) : List UInt8 := hd ++ R.flatMap RV.bytes ++ List.replicate m 255
theorem sectorB_length {hd : List UInt8} (h : hd.length = 12) (R : List RV) (m : Nat) : (sectorB hd R m).length = 12 + total R + m := by
  unfold sectorB; simp only [List.length_append, h, total_flat, List.length_replicate]
theorem sector_drop {hd : List UInt8} (h : hd.length = 12) (R : List RV) (m j : Nat) (hj : j < R.length) :
    (sectorB hd R m).drop (12 + total (R.take j)) = recB (R[j]).u (R[j]).t (R[j]).kb (R[j]).bs (R[j]).c ++ (0 : UInt8) :: ((R.drop (j + 1)).flatMap RV.bytes ++ List.replicate m 255) := by
  have e : R = R.take j ++ (R[j] :: R.drop (j + 1)) := by rw [← List.drop_eq_getElem_cons hj, List.take_append_drop]
  have e2 : sectorB hd R m = (hd ++ (R.take j).flatMap RV.bytes) ++ ((R[j]).bytes ++ ((R.drop (j + 1)).flatMap RV.bytes ++ List.replicate m 255)) := by
    unfold sectorB
    conv => lhs; rw [e]
    rw [List.flatMap_append, List.flatMap_cons]
    simp only [List.append_assoc]
  rw [e2, List.drop_append_of_le_length (by simp only [List.length_append, h, total_flat]; omega), List.drop_eq_nil_of_le (by simp only [List.length_append, h, total_flat]; omega), List.nil_append]
  unfold RV.bytes
  simp
theorem sector_zero {hd : List UInt8} (h : hd.length = 12) (R : List RV) (m j : Nat) (hj : j < R.length) :
    (sectorB hd R m).getD (12 + total (R.take j) + ((R[j]).len - 1)) 0 = 0 := by
  have hd' := sector_drop h R m j hj
  have : ((sectorB hd R m).drop (12 + total (R.take j))).getD ((R[j]).len - 1) 0 = 0 := by
    rw [hd', List.getD_eq_getElem?_getD, List.getElem?_append_right (by rw [recB_length]; unfold RV.len; omega), recB_length, show (R[j]).len - 1 - (15 + (R[j]).kb.length + (R[j]).bs.length) = 0 by unfold RV.len; omega]
    rfl
  rwa [List.getD_eq_getElem?_getD, List.getElem?_drop, ← List.getD_eq_getElem?_getD] at this
theorem sector_tail {hd : List UInt8} (h : hd.length = 12) (R : List RV) (m i : Nat) (h1 : 12 + total R ≤ i) (h2 : i < 12 + total R + m) : (sectorB hd R m).getD i 0 = 255 := by
  unfold sectorB
  rw [List.getD_eq_getElem?_getD, List.getElem?_append_right (by simp only [List.length_append, h, total_flat]; omega)]
  simp only [List.length_append, h, total_flat]
  rw [List.getElem?_replicate, if_pos (by omega)]
  rfl
theorem total_le (R : List RV) (j : Nat) (hj : j < R.length) : total (R.take j) + (R[j]).len ≤ total R := by
  rw [← take_total R j hj]
  conv => rhs; rw [← List.take_append_drop (j + 1) R, total_append]
  omega
theorem at_lt {hd : List UInt8} (h : hd.length = 12) {R : List RV} {m E j : Nat} (hE : ∀ i, E ≤ i → i < 12 + total R + m → (sectorB hd R m).getD i 0 = 255) (hj : j < R.length) : 12 + total (R.take j) < E := by
  have h0 := sector_zero h R m j hj
  have hl := total_le R j hj
  have hp : 16 ≤ (R[j]).len := by unfold RV.len; omega
  by_cases hlt : 12 + total (R.take j) < E
  · exact hlt
  · have := hE (12 + total (R.take j) + ((R[j]).len - 1)) (by omega) (by omega)
    rw [this] at h0
    cases h0
theorem at_end {hd : List UInt8} (h : hd.length = 12) {R : List RV} {m E : Nat} (hE : E ≤ 12 + total R + m) (hX : E = 0 ∨ (sectorB hd R m).getD (E - 1) 0 ≠ 255) : ¬ 12 + total R < E := by
  intro hlt
  rcases hX with h0 | h0
  · omega
  · exact h0 (sector_tail h R m (E - 1) (by omega) (by omega))
theorem row_cells {w : World} {a : Option Addr} {n : Nat} {bs : List UInt8} (hs : Sl encB w a n bs) (h0 : 0 < n) :
    ∃ b off, a = some ⟨b, off, none⟩ ∧ b < w.heap.size ∧ ∀ i, i < n → w.cell? ⟨b, off + i, none⟩ = some (.int .u8 ((bs.getD i 0).toNat : Int)) := by
  obtain ⟨b, off, ha, hlt, hc⟩ := hs.2 h0
  have hl := hs.1
  refine ⟨b, off, ha, hlt, fun i hi => ?_⟩
  rw [hc i (by omega), List.getD_eq_getElem?_getD]
  simp [hl, hi, encB]
end Go.Proofs.Ytechkdnoekffmaa
