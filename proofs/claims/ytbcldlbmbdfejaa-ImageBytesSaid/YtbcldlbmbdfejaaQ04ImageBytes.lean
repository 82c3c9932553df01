/- A region that draws its order, walked once: what only reads, and what makes memory but yields one value wherever S holds, comes in the order of the prover's choosing. Over any program. -/
import Derived.Test.YtbcldlbmbdfejaaQ03ImageBytes
namespace Go.Proofs.Ytbcldlbmbdfejaa
open Go.RowKit
/-- An operation whose run is r: it leaves v, and S holds behind it. -/
def Stirs (P : Program) (S : World → Prop) (v : Value) : Result Next → Prop
  | .ok (.value u) w' => u = v ∧ S w'
  | .ok (.enter f args) w' => Calls P f args w' fun e w'' => e = .returned v ∧ S w''
  | _ => False
def StirsIf (P : Program) (ops : Array Oper) (S : World → Prop) (o : Oper) (v : Value) (a : Act) : Prop :=
  (Region.wanted o (yielded ops a.tmps) = true ∧ ∀ w, S w → Stirs P S v ((execOp a.eval o).run P w)) ∨
  (Region.wanted o (yielded ops a.tmps) = false ∧ v = undef)
section
variable {P : Program} {ops : Array Oper} {Q : Exit → Act → World → Prop} {md : Region.Mode} {S : World → Prop}
theorem StirsIf.of_same {o : Oper} {v : Value} {a a' : Act} (hy : StirsIf P ops S o v a) (he : execOp a'.eval o = execOp a.eval o)
    (hw : Region.wanted o (yielded ops a'.tmps) = Region.wanted o (yielded ops a.tmps)) : StirsIf P ops S o v a' := by
  unfold StirsIf at *
  rw [he, hw]
  exact hy
theorem Stirs.wp {o : Oper} {v : Value} {a : Act} {w : World} {K : Act → World → Prop} (h : Stirs P S v ((execOp a.eval o).run P w)) (hK : ∀ w', S w' → K (a.put o.dst v) w') : o.wp P a w K Q := by
  unfold Oper.wp
  generalize (execOp a.eval o).run P w = r at *
  cases r with
  | ok n w' =>
    cases n <;> simp only [Stirs, Oper.upon] at h ⊢
    case value u => obtain ⟨rfl, hs⟩ := h; exact hK _ hs
    case enter f args =>
      refine Calls.mono h fun e w'' he => ?_
      obtain ⟨rfl, hs⟩ := he
      exact hK _ hs
  | halt x w' => cases x <;> simp only [Stirs] at h
theorem StirsIf.wpOp {i : Nat} {o : Oper} {v : Value} {a : Act} (hi : ops[i]? = some o) (hy : StirsIf P ops S o v a)
    {K : Act → World → Prop} {w : World} (hS : S w) (h : ∀ w', S w' → K (a.put o.dst v) w') : wpOp P ops Q i K a w := by
  unfold Go.wpOp
  simp only [hi]
  rcases hy with ⟨hw, hv⟩ | ⟨hw, rfl⟩
  · simp only [hw, if_true]; exact .inl ((hv w hS).wp h)
  · simp only [hw, Bool.false_eq_true, if_false]; exact h w hS
/-- One operation of a stretch in which each yields one value wherever S holds. 'b' true: it only reads. -/
def stirOp (P : Program) (ops : Array Oper) (S : World → Prop) (i : Nat) (b : Bool) (K : Act → Prop) (a : Act) : Prop :=
  match ops[i]? with
  | none => False
  | some o =>
    if Region.wanted o (yielded ops a.tmps) = true then
      (match b with
        | true => ∃ v, (∀ w', S w' → (execOp a.eval o).run P w' = .ok (.value v) w') ∧ K (a.put o.dst v)
        | false => ∃ v, (∀ w', S w' → Stirs P S v ((execOp a.eval o).run P w')) ∧ K (a.put o.dst v))
    else K (a.put o.dst undef)
def wpStir (P : Program) (ops : Array Oper) (Q : Exit → Act → World → Prop) (S : World → Prop) : List (Nat × Bool) → Act → Prop
  | [], a => ∀ w, S w → Q .normal a w
  | (i, b) :: l, a => stirOp P ops S i b (wpStir P ops Q S l) a
def wpStir1 (P : Program) (ops : Array Oper) (Q : Exit → Act → World → Prop) (S : World → Prop) : List Nat → Act → Prop
  | [], a => ∀ w, S w → Q .normal a w
  | i :: l, a => ∃ o v, ops[i]? = some o ∧ StirsIf P ops S o v a ∧ wpStir1 P ops Q S l (a.put o.dst v)
theorem wpStir_1 : ∀ (l : List (Nat × Bool)) (a : Act), wpStir P ops Q S l a → wpStir1 P ops Q S (l.map (·.1)) a := by
  intro l
  induction l with
  | nil => exact fun a h => h
  | cons p l ih =>
    obtain ⟨i, b⟩ := p
    intro a h
    change stirOp P ops S i b (wpStir P ops Q S l) a at h
    unfold stirOp at h
    cases ho : ops[i]? with
    | none => rw [ho] at h; exact h.elim
    | some o =>
      rw [ho] at h
      simp only at h
      by_cases hw : Region.wanted o (yielded ops a.tmps) = true
      · rw [if_pos hw] at h
        cases b with
        | true =>
          obtain ⟨v, h1, h2⟩ := h
          exact ⟨o, v, ho, .inl ⟨hw, fun w hs => by rw [h1 w hs]; exact ⟨rfl, hs⟩⟩, ih _ h2⟩
        | false =>
          obtain ⟨v, h1, h2⟩ := h
          exact ⟨o, v, ho, .inl ⟨hw, h1⟩, ih _ h2⟩
      · rw [if_neg hw] at h
        exact ⟨o, undef, ho, .inr ⟨by simpa using hw, rfl⟩, ih _ h⟩
def FreeP (ops : Array Oper) (listed : Array Bool) (i : Nat) : Prop :=
  ∀ oi, ops[i]? = some oi → ∀ j oj, ops[j]? = some oj → j ≠ i → listed.getD j true = false → (∀ e ∈ oj.after, Region.binds .any e = true → e.on ≠ i) → oi.apart ops oj = true
def CheckS (ops : Array Oper) : Array Bool → List Nat → Prop
  | listed, [] => Region.ready .any ops listed = []
  | listed, i :: l => i ∈ Region.ready .any ops listed ∧ FreeP ops listed i ∧ CheckS ops (listed.setIfInBounds i true) l
theorem FreeP.mono {listed : Array Bool} {i j : Nat} (h : FreeP ops listed i) : FreeP ops (listed.setIfInBounds j true) i := by
  intro oi hi k ok hk hki hun hno
  refine h oi hi k ok hk hki ?_ hno
  by_cases hjk : j = k
  · subst hjk
    by_cases hl : j < listed.size
    · simp [hl] at hun
    · rw [Array.setIfInBounds_eq_of_size_le (by omega)] at hun; exact hun
  · rw [getD_set_ne true hjk] at hun; exact hun
theorem stir_move (hs : Region.noSelect ops = true) : ∀ (l : List Nat) (listed : Array Bool) (j : Nat), CheckS ops listed l → j ∈ Region.ready .any ops listed →
    j ∈ l ∧ CheckS ops (listed.setIfInBounds j true) (l.erase j) ∧ ∀ a, wpStir1 P ops Q S l a → wpStir1 P ops Q S (j :: l.erase j) a := by
  intro l
  induction l with
  | nil => intro listed j hc hj; rw [show Region.ready .any ops listed = [] from hc] at hj; cases hj
  | cons i l ih =>
    intro listed j hc hj
    obtain ⟨hr, hf, hc'⟩ := hc
    by_cases hji : j = i
    · subst hji
      simp only [List.erase_cons_head]
      exact ⟨by simp, hc', fun a h => h⟩
    · obtain ⟨hjl, hcj, hmv⟩ := ih _ j hc' (ready_mono hj hji)
      have hij : (i == j) = false := by simp [Ne.symm hji]
      rw [List.erase_cons_tail (by rw [hij]; decide)]
      refine ⟨by simp [hjl], ⟨ready_mono hr (Ne.symm hji), hf.mono, ?_⟩, fun a h => ?_⟩
      · rw [Array.setIfInBounds_comm _ _ hji]; exact hcj
      · obtain ⟨oi, v, hoi, hyi, hrest⟩ := h
        obtain ⟨oj, u, hoj, hyj, hrest'⟩ := hmv _ hrest
        obtain ⟨hjun, oj', hoj', hall⟩ := mem_ready.1 hj
        obtain rfl : oj' = oj := by rw [hoj] at hoj'; exact (Option.some.inj hoj').symm
        have hnot : ∀ e ∈ oj'.after, Region.binds .any e = true → e.on ≠ i := fun e he hb heq => by
          have h1 := hall e he hb
          have h0 := (mem_ready.1 hr).1
          rw [heq] at h1
          rcases Nat.lt_or_ge i listed.size with h' | h'
          · simp [h'] at h0 h1; rw [h0] at h1; cases h1
          · simp [Array.getElem?_eq_none h'] at h1
        have hap := hf oi hoi j oj' hoj hji hjun hnot
        obtain ⟨h1, h2, h3⟩ := Oper.apart_spec hap
        have hsi : ∀ cs b, oi.op ≠ .select cs b := fun cs b => Region.noSelect_spec hs i oi cs b hoi
        have hsj : ∀ cs b, oj'.op ≠ .select cs b := fun cs b => Region.noSelect_spec hs j oj' cs b hoj
        have hyj' : StirsIf P ops S oj' u a := hyj.of_same (execOp_put oj' hsj a oi.dst v h1).symm (wanted_put oj' a oi.dst v h1).symm
        refine ⟨oj', u, hoj, hyj', oi, v, hoi, hyi.of_same (execOp_put oi hsi a oj'.dst u h3) (wanted_put oi a oj'.dst u h3), ?_⟩
        rw [← Act.put_comm a v u h2]
        exact hrest'
theorem stir_sound (hs : Region.noSelect ops = true) : ∀ (n : Nat) (l : List Nat) (listed : Array Bool) (a : Act), l.length = n → CheckS ops listed l → wpStir1 P ops Q S l a →
    ∀ w, S w → wpAnyH P .any ops Q S n listed a w := by
  intro n
  induction n with
  | zero =>
    intro l listed a hl hc h w hS
    obtain rfl := List.eq_nil_of_length_eq_zero hl
    exact ⟨hc, h w hS⟩
  | succ n ih =>
    intro l listed a hl hc h w hS
    refine ⟨fun h0 => ?_, fun j hj => ?_⟩
    · cases l with
      | nil => simp at hl
      | cons i l => obtain ⟨hr, _⟩ := hc; rw [h0] at hr; cases hr
    · obtain ⟨hjl, hcj, hmv⟩ := stir_move (P := P) (Q := Q) (S := S) hs l listed j hc hj
      obtain ⟨o, v, ho, hy, hrest⟩ := hmv a h
      refine hy.wpOp ho hS fun w' hs' => ⟨hs', ?_⟩
      exact ih (l.erase j) _ _ (by rw [List.length_erase_of_mem hjl]; omega) hcj hrest w' hs'
/-- An order: 'step' as in XRegionT; 'stir': from here on each yields one value wherever S holds. -/
inductive LexS where
  | stir : List (Nat × Bool) → LexS
  | step : Nat → Bool → LexS → LexS
  | fork : Nat → LexS → Nat → LexS → LexS
  | fork3 : Nat → LexS → Nat → LexS → Nat → LexS → LexS
def wpLexS (P : Program) (ops : Array Oper) (Q : Exit → Act → World → Prop) : LexS → (World → Prop) → Act → World → Prop
  | .stir l, S, a, w => ∃ S' : World → Prop, (∀ x, S' x → S x) ∧ S' w ∧ wpStir P ops Q S' l a
  | .step i b l, S, a, w => ∃ S' : World → Prop, (∀ x, S' x → S x) ∧ lexOp P ops Q S' i b (wpLexS P ops Q l S') a w
  | .fork i l j m, S, a, w => ∃ S' : World → Prop, (∀ x, S' x → S x) ∧ lexOp P ops Q S' i false (wpLexS P ops Q l S') a w ∧ lexOp P ops Q S' j false (wpLexS P ops Q m S') a w
  | .fork3 i l j m k r, S, a, w => ∃ S' : World → Prop, (∀ x, S' x → S x) ∧ lexOp P ops Q S' i false (wpLexS P ops Q l S') a w ∧ lexOp P ops Q S' j false (wpLexS P ops Q m S') a w ∧ lexOp P ops Q S' k false (wpLexS P ops Q r S') a w
def checkStir (ops : Array Oper) : Array Bool → List (Nat × Bool) → Bool
  | listed, [] => (Region.ready .any ops listed).isEmpty
  | listed, (i, _) :: l => Region.free .any ops listed i && (Region.ready .any ops listed).contains i && checkStir ops (listed.setIfInBounds i true) l
def checkS (ops : Array Oper) : Nat → Array Bool → LexS → Bool
  | n, listed, .stir l => (l.length == n) && checkStir ops listed l
  | n + 1, listed, .step i b l => (if b then Region.free .any ops listed i && (Region.ready .any ops listed).contains i else Region.ready .any ops listed == [i]) && checkS ops n (listed.setIfInBounds i true) l
  | n + 1, listed, .fork i l j m => (Region.ready .any ops listed == [i, j]) && checkS ops n (listed.setIfInBounds i true) l && checkS ops n (listed.setIfInBounds j true) m
  | n + 1, listed, .fork3 i l j m k r => (Region.ready .any ops listed == [i, j, k]) && checkS ops n (listed.setIfInBounds i true) l && checkS ops n (listed.setIfInBounds j true) m && checkS ops n (listed.setIfInBounds k true) r
  | _, _, _ => false
theorem checkStir_P : ∀ (l : List (Nat × Bool)) (listed : Array Bool), checkStir ops listed l = true → CheckS ops listed (l.map (·.1)) := by
  intro l
  induction l with
  | nil => intro listed h; show Region.ready .any ops listed = []; simpa [checkStir] using h
  | cons p l ih =>
    obtain ⟨i, b⟩ := p
    intro listed h
    simp only [checkStir, Bool.and_eq_true] at h
    obtain ⟨⟨hf, hr⟩, hc⟩ := h
    exact ⟨by simpa using hr, fun oi hoi => Region.free_spec hoi hf, ih _ hc⟩
theorem lexS_sound (hs : Region.noSelect ops = true) (hQ : ∀ c a d v w, Q (.panic c) (a.put d v) w → Q (.panic c) a w) :
    ∀ (l : LexS) (S : World → Prop) (n : Nat) (listed : Array Bool) (a : Act) (w : World), checkS ops n listed l = true → wpLexS P ops Q l S a w → wpAnyH P .any ops Q S n listed a w := by
  intro l
  induction l with
  | stir l =>
    intro S n listed a w hc h
    have hc' : ((l.length == n) && checkStir ops listed l) = true := by cases n <;> exact hc
    simp only [Bool.and_eq_true, beq_iff_eq] at hc'
    obtain ⟨hl, hk⟩ := hc'
    obtain ⟨S', hSS, hw, h⟩ := h
    exact wpAnyH_mono hSS _ _ _ _ (stir_sound hs n (l.map (·.1)) listed a (by simpa using hl) (checkStir_P _ _ hk) (wpStir_1 _ _ h) w hw)
  | step i b l ih =>
    intro S n listed a w hc h
    cases n with
    | zero => simp [checkS] at hc
    | succ n =>
    simp only [checkS, Bool.and_eq_true] at hc
    obtain ⟨hc1, hc2⟩ := hc
    obtain ⟨S', hSS, h⟩ := h
    refine wpAnyH_mono hSS _ _ _ _ ?_
    unfold lexOp at h
    cases ho : ops[i]? with
    | none => rw [ho] at h; exact h.elim
    | some o =>
      rw [ho] at h
      simp only at h
      cases b with
      | true =>
        simp only [if_true, Bool.and_eq_true] at hc1
        obtain ⟨hf, hr⟩ := hc1
        by_cases hw : Region.wanted o (yielded ops a.tmps) = true
        · rw [if_pos hw] at h
          obtain ⟨v, h1, h2, h3⟩ := h
          exact wpAnyH_take ho hs hf hr (fun c a w => hQ c a _ _ w) (.inl ⟨hw, h1⟩) h2 (ih _ _ _ _ _ hc2 h3)
        · rw [if_neg hw] at h
          exact wpAnyH_take ho hs hf hr (fun c a w => hQ c a _ _ w) (.inr ⟨by simpa using hw, rfl⟩) h.1 (ih _ _ _ _ _ hc2 h.2)
      | false =>
        simp only [Bool.false_eq_true, if_false] at hc1
        have hr : Region.ready .any ops listed = [i] := by simpa using hc1
        refine wpAnyH_all hr (by simp) (fun j hj => ?_)
        obtain rfl : j = i := by simpa using hj
        unfold wpOp
        rw [ho]
        simp only
        by_cases hw : Region.wanted o (yielded ops a.tmps) = true
        · rw [if_pos hw] at h
          simp only [hw, if_true]
          exact .inl (Oper.wp_mono (fun a' w' h' => ⟨h'.1, ih _ _ _ _ _ hc2 h'.2⟩) h)
        · rw [if_neg hw] at h
          simp only [hw]
          exact ⟨h.1, ih _ _ _ _ _ hc2 h.2⟩
  | fork i l j m ih1 ih2 =>
    intro S n listed a w hc h
    cases n with
    | zero => simp [checkS] at hc
    | succ n =>
    simp only [checkS, Bool.and_eq_true] at hc
    obtain ⟨⟨hc1, hc2⟩, hc3⟩ := hc
    have hr : Region.ready .any ops listed = [i, j] := by simpa using hc1
    obtain ⟨S', hSS, h1, h2⟩ := h
    refine wpAnyH_mono hSS _ _ _ _ ?_
    refine wpAnyH_all hr (by simp) (fun k hk => ?_)
    have hk' : k = i ∨ k = j := by simpa using hk
    rcases hk' with rfl | rfl
    · unfold lexOp at h1
      cases ho : ops[k]? with
      | none => rw [ho] at h1; exact h1.elim
      | some o =>
        rw [ho] at h1
        simp only at h1
        unfold wpOp
        rw [ho]
        simp only
        by_cases hw : Region.wanted o (yielded ops a.tmps) = true
        · rw [if_pos hw] at h1
          simp only [hw, if_true]
          exact .inl (Oper.wp_mono (fun a' w' h' => ⟨h'.1, ih1 _ _ _ _ _ hc2 h'.2⟩) h1)
        · rw [if_neg hw] at h1
          simp only [hw]
          exact ⟨h1.1, ih1 _ _ _ _ _ hc2 h1.2⟩
    · unfold lexOp at h2
      cases ho : ops[k]? with
      | none => rw [ho] at h2; exact h2.elim
      | some o =>
        rw [ho] at h2
        simp only at h2
        unfold wpOp
        rw [ho]
        simp only
        by_cases hw : Region.wanted o (yielded ops a.tmps) = true
        · rw [if_pos hw] at h2
          simp only [hw, if_true]
          exact .inl (Oper.wp_mono (fun a' w' h' => ⟨h'.1, ih2 _ _ _ _ _ hc3 h'.2⟩) h2)
        · rw [if_neg hw] at h2
          simp only [hw]
          exact ⟨h2.1, ih2 _ _ _ _ _ hc3 h2.2⟩
  | fork3 i l j m k r ih1 ih2 ih3 =>
    intro S n listed a w hc h
    cases n with
    | zero => simp [checkS] at hc
    | succ n =>
    simp only [checkS, Bool.and_eq_true] at hc
    obtain ⟨⟨⟨hc1, hc2⟩, hc3⟩, hc4⟩ := hc
    have hr : Region.ready .any ops listed = [i, j, k] := by simpa using hc1
    obtain ⟨S', hSS, h1, h2, h3⟩ := h
    refine wpAnyH_mono hSS _ _ _ _ ?_
    have one : ∀ (x : Nat) (y : LexS), (∀ (a : Act) (w : World), wpLexS P ops Q y S' a w → wpAnyH P .any ops Q S' n (listed.setIfInBounds x true) a w) → lexOp P ops Q S' x false (wpLexS P ops Q y S') a w →
        wpOp P ops Q x (fun a' w' => S' w' ∧ wpAnyH P .any ops Q S' n (listed.setIfInBounds x true) a' w') a w := by
      intro x y ih h1
      unfold lexOp at h1
      cases ho : ops[x]? with
      | none => rw [ho] at h1; exact h1.elim
      | some o =>
        rw [ho] at h1
        simp only at h1
        unfold wpOp
        rw [ho]
        simp only
        by_cases hw : Region.wanted o (yielded ops a.tmps) = true
        · rw [if_pos hw] at h1
          simp only [hw, if_true]
          exact .inl (Oper.wp_mono (fun a' w' h' => ⟨h'.1, ih _ _ h'.2⟩) h1)
        · rw [if_neg hw] at h1
          simp only [hw]
          exact ⟨h1.1, ih _ _ h1.2⟩
    refine wpAnyH_all hr (by simp) (fun x hx => ?_)
    have hx' : x = i ∨ x = j ∨ x = k := by simpa using hx
    rcases hx' with rfl | rfl | rfl
    · exact one _ l (fun a w h => ih1 _ _ _ _ _ hc2 h) h1
    · exact one _ m (fun a w h => ih2 _ _ _ _ _ hc3 h) h2
    · exact one _ r (fun a w h => ih3 _ _ _ _ _ hc4 h) h3
def LexS.of : List (Nat × Bool) → LexS → LexS
  | [], t => t
  | (i, b) :: l, t => .step i b (LexS.of l t)
theorem wp_region_lexS {id : Nat} {a : Act} {w : World} (S : World → Prop) (l : LexS) (hm : P.follows .mixedOrders = true)
    (hc : (Region.noSelect ops && checkS ops ops.size (Array.replicate ops.size false) l) = true) (hQ : ∀ c a d v w, Q (.panic c) (a.put d v) w → Q (.panic c) a w)
    (h : wpLexS P ops Q l S a w.drew) : (Code.region id ops true).wp P Q a w := by
  simp only [Bool.and_eq_true] at hc
  obtain ⟨hs, hk⟩ := hc
  exact wp_region_held hm (lexS_sound (P := P) (Q := Q) hs hQ l S _ _ a _ hk h)
theorem lexS_step {i : Nat} {b : Bool} {l : LexS} {a : Act} {w : World}
    (h : ∀ K : Act → World → Prop, (∀ a w, wpLexS P ops Q l S a w → K a w) → lexOp P ops Q S i b K a w) : wpLexS P ops Q (.step i b l) S a w := ⟨S, fun _ h => h, h _ (fun _ _ h => h)⟩
theorem lexS_fork {i j : Nat} {l m : LexS} {a : Act} {w : World}
    (h1 : ∀ K : Act → World → Prop, (∀ a w, wpLexS P ops Q l S a w → K a w) → lexOp P ops Q S i false K a w) (h2 : ∀ K : Act → World → Prop, (∀ a w, wpLexS P ops Q m S a w → K a w) → lexOp P ops Q S j false K a w) : wpLexS P ops Q (.fork i l j m) S a w :=
  ⟨S, fun _ h => h, h1 _ (fun _ _ h => h), h2 _ (fun _ _ h => h)⟩
theorem lexS_fork3 {i j k : Nat} {l m r : LexS} {a : Act} {w : World}
    (h1 : ∀ K : Act → World → Prop, (∀ a w, wpLexS P ops Q l S a w → K a w) → lexOp P ops Q S i false K a w) (h2 : ∀ K : Act → World → Prop, (∀ a w, wpLexS P ops Q m S a w → K a w) → lexOp P ops Q S j false K a w)
    (h3 : ∀ K : Act → World → Prop, (∀ a w, wpLexS P ops Q r S a w → K a w) → lexOp P ops Q S k false K a w) : wpLexS P ops Q (.fork3 i l j m k r) S a w :=
  ⟨S, fun _ h => h, h1 _ (fun _ _ h => h), h2 _ (fun _ _ h => h), h3 _ (fun _ _ h => h)⟩
theorem lexS_stir {l : List (Nat × Bool)} {a : Act} {w : World} (S' : World → Prop) (hSS : ∀ x, S' x → S x) (hS : S' w) (h : wpStir P ops Q S' l a) : wpLexS P ops Q (.stir l) S a w := ⟨S', hSS, hS, h⟩
/-- From here on more is known of the worlds. -/
theorem lexS_strong {l : LexS} {a : Act} {w : World} (S' : World → Prop) (hS : ∀ x, S' x → S x) (h : wpLexS P ops Q l S' a w) : wpLexS P ops Q l S a w := by
  cases l with
  | stir l => obtain ⟨S2, h2, h3⟩ := h; exact ⟨S2, fun x hx => hS x (h2 x hx), h3⟩
  | step i b l => obtain ⟨S2, h2, h3⟩ := h; exact ⟨S2, fun x hx => hS x (h2 x hx), h3⟩
  | fork i l j m => obtain ⟨S2, h2, h3⟩ := h; exact ⟨S2, fun x hx => hS x (h2 x hx), h3⟩
  | fork3 i l j m k r => obtain ⟨S2, h2, h3⟩ := h; exact ⟨S2, fun x hx => hS x (h2 x hx), h3⟩
theorem stir_step {i : Nat} {b : Bool} {l : List (Nat × Bool)} {a : Act}
    (h : ∀ K : Act → Prop, (∀ a, wpStir P ops Q S l a → K a) → stirOp P ops S i b K a) : wpStir P ops Q S ((i, b) :: l) a := h _ (fun _ h => h)
theorem stir_nil {a : Act} (h : ∀ w, S w → Q .normal a w) : wpStir P ops Q S [] a := h
theorem Stirs.call {v : Value} {f : FuncId} {args : Array Value} {w' : World} (h : Calls P f args w' fun e w'' => e = .returned v ∧ S w'') : Stirs P S v (.ok (.enter f args) w') := h
end
end Go.Proofs.Ytbcldlbmbdfejaa
/- image: Next, the program's. No condition. -/
namespace Go.Proofs.Ytbcldlbmbdfejaa
open Go.ChangeShapes Go.WideShapes Go.ChangeAt Go.RowKit
/-- An instruction as a value. -/
def LinkV (k : Nat) (a b : Int) (n : Int) : Value := .agg #[.int .u8 (k : Nat), .int .i64 a, .int .i64 b, .int .i64 n]
/-- What is read. -/
structure NextR where
  k : Nat
  a : Int
  b : Int
  n : Int
  size : Int
  err : Int
def NextR.ret (r : NextR) : Value := .tuple #[LinkV r.k r.a r.b r.n, .int .i64 r.size, .int .i64 r.err]
def nextR (bs : List UInt8) (p : Int) : NextR :=
  if p < 0 ∨ (bs.length : Int) ≤ p then ⟨0, 0, 0, 0, 0, 2⟩
  else
    let k := (bs.getD p.toNat 0).toNat
    let q := imgW k
    if q.2.2.2 = false then ⟨0, 0, 0, 0, 0, 8⟩
    else if (bs.length : Int) - p < 1 + q.1 + q.2.1 + q.2.2.1 then ⟨0, 0, 0, 0, 0, 6⟩
    else ⟨k, (getR bs (p + 1) q.1).1, (getR bs (p + 1 + q.1) q.2.1).1, signB (getR bs (p + 1 + q.1 + q.2.1) q.2.2.1).1 q.2.2.1, 1 + q.1 + q.2.1 + q.2.2.1, 0⟩
theorem imgW_small : ∀ k : Fin 256, (imgW k.val).1 ≤ 2 ∧ (imgW k.val).2.1 ≤ 1 ∧ (imgW k.val).2.2.1 ≤ 8 := by decide +kernel
theorem info4 : (Try.prog.info? 54).map (·.size) = some 4 := by kernel_rfl
set_option maxRecDepth 100000 in
theorem size_any (w : World) (a b n : Nat) (ha : a ≤ 8) (hb : b ≤ 8) (hn : n ≤ 8) : Calls Try.prog 47 #[.agg #[.int .i64 (a : Nat), .int .i64 (b : Nat), .int .i64 (n : Nat)]] w fun e w' => e = .returned (.int .i64 (1 + (a : Int) + (b : Int) + (n : Int))) ∧ Below w.heap.size w w' := by
  go_enter Try.func47, Try.ntmps47
  go_wp2_with fail
  go_ret
  exact ⟨rfl, (Below.refl _ _).alloc (Nat.le_refl _) _⟩
set_option maxRecDepth 100000 in
set_option maxHeartbeats 4000000 in
theorem Next_out (w : World) (a : Option Addr) (n cap : Nat) (bs : List UInt8) (p : Int) (hs : Sl encB w a n bs) (hn : n ≤ 1048576) (hp : IntR p) (h : p < 0 ∨ (n : Int) ≤ p) :
    Calls Try.prog 18 #[.slice a n cap, .int .i64 p] w fun e w' => e = .returned (NextR.ret ⟨0, 0, 0, 0, 0, 2⟩) ∧ Below w.heap.size w w' := by
  by_cases h1 : p < 0
  · have e1 := decide_eq_true h1
    go_enter Try.func18, Try.ntmps18
    go_wp2_with fail
    exact bodyPost_ret (results_cell_row_tmp2 rfl _ _ w.heap.size _ _ _ _ rfl (heap_alloc_last w _) Try.underlying54 rfl info4) rfl ⟨rfl, (Below.refl _ _).alloc (Nat.le_refl _) _⟩
  · have e1 := decide_eq_false h1
    have h2 : (n : Int) ≤ p := by omega
    have e2 := decide_eq_true h2
    go_enter Try.func18, Try.ntmps18
    go_wp2_with fail
    exact bodyPost_ret (results_cell_row_tmp2 rfl _ _ w.heap.size _ _ _ _ rfl (heap_alloc_last w _) Try.underlying54 rfl info4) rfl ⟨rfl, (Below.refl _ _).alloc (Nat.le_refl _) _⟩
theorem get_nat (bs : List UInt8) (i : Int) (m : Nat) : ∃ v : Nat, (getR bs i m).1 = (v : Int) ∧ v < 256 ^ m := by
  unfold getR
  have h0 : 0 < 256 ^ m := Nat.pow_pos (by omega)
  split
  · exact ⟨0, rfl, h0⟩
  · split
    · exact ⟨0, rfl, h0⟩
    · refine ⟨_, rfl, ?_⟩
      have h1 := getN_lt ((bs.drop i.toNat).take ((m : Int).toNat))
      have h2 : ((bs.drop i.toNat).take ((m : Int).toNat)).length ≤ m := by rw [List.length_take]; omega
      exact Nat.lt_of_lt_of_le h1 (Nat.pow_le_pow_right (by omega) h2)
theorem get_small (bs : List UInt8) (i : Int) (m : Nat) (h : m ≤ 2) : ∃ v : Nat, (getR bs i m).1 = (v : Int) ∧ v < 65536 := by
  obtain ⟨v, h1, h2⟩ := get_nat bs i m
  exact ⟨v, h1, Nat.lt_of_lt_of_le h2 (Nat.pow_le_pow_right (by omega) h)⟩
theorem get_big (bs : List UInt8) (i : Int) (m : Nat) (h : m ≤ 8) : ∃ v : Nat, (getR bs i m).1 = (v : Int) ∧ v < 18446744073709551616 := by
  obtain ⟨v, h1, h2⟩ := get_nat bs i m
  exact ⟨v, h1, Nat.lt_of_lt_of_le h2 (Nat.pow_le_pow_right (n := 256) (by omega) h)⟩
/-- What Next's last region reads. -/
def NS (gx gw : Nat) (k : Nat) (A B N : Int) (a b n : Nat) (z : World) : Prop := Blk4 z gx (.int .u8 (k : Nat)) (.int .i64 A) (.int .i64 B) (.int .i64 N) 54 ∧ Blk3 z gw (.int .i64 (a : Nat)) (.int .i64 (b : Nat)) (.int .i64 (n : Nat)) 98
/-- The three blocks of Next. -/
structure NB (w0 w : World) (gw : Nat) (k a b n : Nat) : Prop where
  r : Blk4 w w0.heap.size (.int .u8 0) (.int .i64 0) (.int .i64 0) (.int .i64 0) 54
  x : Blk4 w (w0.heap.size + 1) (.int .u8 (k : Nat)) (.int .i64 0) (.int .i64 0) (.int .i64 0) 54
  q : Blk3 w gw (.int .i64 (a : Nat)) (.int .i64 (b : Nat)) (.int .i64 (n : Nat)) 98
  b : Below w0.heap.size w0 w
  g : w0.heap.size + 1 < gw
theorem NB.below {w0 w w' : World} {gw k a b n : Nat} (h : NB w0 w gw k a b n) (hb : Below w.heap.size w w') : NB w0 w' gw k a b n :=
  ⟨h.r.below hb, h.x.below hb, h.q.below hb, h.b.trans (hb.mono h.b.size), h.g⟩
set_option maxRecDepth 100000 in
set_option maxHeartbeats 4000000 in
theorem Next_in (w : World) (a : Option Addr) (n cap : Nat) (bs : List UInt8) (p : Nat) (hs : Sl encB w a n bs) (hn : n ≤ 1048576) (hcap : n ≤ cap) (hp : p < n) :
    Calls Try.prog 18 #[.slice a n cap, .int .i64 (p : Nat)] w fun e w' => e = .returned (NextR.ret (nextR bs p)) ∧ Below w.heap.size w w' := by
  have hl := hs.1
  have HS := Lib.hid hs
  obtain ⟨b, off, rfl, hlt, hc⟩ := hs.2 (by omega)
  obtain ⟨k, hk⟩ : ∃ k, k = (bs[p]'(by omega)).toNat := ⟨_, rfl⟩
  have hck : w.cell? ⟨b, off + p, none⟩ = some (.int .u8 (k : Nat)) := by rw [hk]; exact hc p (by omega)
  have hk256 : k < 256 := by rw [hk]; exact (bs[p]'(by omega)).toNat_lt
  have hkd : (bs.getD p 0).toNat = k := by rw [hk]; simp [List.getD, show p < bs.length by omega]
  obtain ⟨wa, wb, wn, ok, hq⟩ : ∃ wa wb wn ok, imgW k = (wa, wb, wn, ok) := ⟨_, _, _, _, rfl⟩
  have hsm := imgW_small ⟨k, hk256⟩
  simp only [hq] at hsm
  obtain ⟨ha, hb, hn8⟩ := hsm
  have HR := Lib.hid (show nextR bs p = if ok = false then ⟨0, 0, 0, 0, 0, 8⟩ else if (n : Int) - p < 1 + wa + wb + wn then ⟨0, 0, 0, 0, 0, 6⟩ else ⟨k, (getR bs ((p : Int) + 1) wa).1, (getR bs ((p : Int) + 1 + wa) wb).1, signB (getR bs ((p : Int) + 1 + wa + wb) wn).1 wn, 1 + wa + wb + wn, 0⟩ by
    unfold nextR
    rw [if_neg (by omega), Int.toNat_natCast, hkd]
    simp only [hq, hl])
  have HWD := Lib.hid (fun w' => widths_any w' k hk256)
  rw [hq] at HWD
  have HL := Lib.hid hl
  have hpn : (p : Int) < n := by omega
  have hal : Below w.heap.size w (w.alloc (.cells #[.int .u8 0, .int .i64 0, .int .i64 0, .int .i64 0] 54)) := (Below.refl _ _).alloc (Nat.le_refl _) _
  have hc1 : (w.alloc (.cells #[.int .u8 0, .int .i64 0, .int .i64 0, .int .i64 0] 54)).cell? ⟨b, off + p, none⟩ = some (.int .u8 (k : Nat)) := by
    rw [← hck]
    unfold World.cell?
    rw [hal.block b hlt]
  clear hs hc hk hkd hq hl hck
  go_enter Try.func18, Try.ntmps18
  go_upto_region 4 with fail
  change Code.wp _ _ _ _ ((w.alloc (.cells #[.int .u8 0, .int .i64 0, .int .i64 0, .int .i64 0] 54)).alloc (.cells #[.int .u8 (k : Nat), .int .i64 0, .int .i64 0, .int .i64 0] 54))
  have h2 : Below (w.alloc (.cells #[.int .u8 0, .int .i64 0, .int .i64 0, .int .i64 0] 54)).heap.size (w.alloc (.cells #[.int .u8 0, .int .i64 0, .int .i64 0, .int .i64 0] 54)) ((w.alloc (.cells #[.int .u8 0, .int .i64 0, .int .i64 0, .int .i64 0] 54)).alloc (.cells #[.int .u8 (k : Nat), .int .i64 0, .int .i64 0, .int .i64 0] 54)) := (Below.refl _ _).alloc (Nat.le_refl _) _
  have hsz : (w.alloc (.cells #[.int .u8 0, .int .i64 0, .int .i64 0, .int .i64 0] 54)).heap.size = w.heap.size + 1 := by simp only [World.alloc, Array.size_push]
  have HR1 := Lib.hid (show Blk4 ((w.alloc (.cells #[.int .u8 0, .int .i64 0, .int .i64 0, .int .i64 0] 54)).alloc (.cells #[.int .u8 (k : Nat), .int .i64 0, .int .i64 0, .int .i64 0] 54)) w.heap.size (.int .u8 0) (.int .i64 0) (.int .i64 0) (.int .i64 0) 54 from (show Blk4 (w.alloc (.cells #[.int .u8 0, .int .i64 0, .int .i64 0, .int .i64 0] 54)) w.heap.size (.int .u8 0) (.int .i64 0) (.int .i64 0) (.int .i64 0) 54 from heap_alloc_last w _).below h2)
  have hx0 := heap_alloc_last (w.alloc (.cells #[.int .u8 0, .int .i64 0, .int .i64 0, .int .i64 0] 54)) (.cells #[.int .u8 (k : Nat), .int .i64 0, .int .i64 0, .int .i64 0] 54)
  rw [hsz] at hx0
  have HX1 := Lib.hid (show Blk4 ((w.alloc (.cells #[.int .u8 0, .int .i64 0, .int .i64 0, .int .i64 0] 54)).alloc (.cells #[.int .u8 (k : Nat), .int .i64 0, .int .i64 0, .int .i64 0] 54)) (w.heap.size + 1) (.int .u8 (k : Nat)) (.int .i64 0) (.int .i64 0) (.int .i64 0) 54 from hx0)
  have HB1 := Lib.hid (hal.trans (h2.mono (by rw [hsz]; omega)))
  have HZ1 : w.heap.size + 1 < ((w.alloc (.cells #[.int .u8 0, .int .i64 0, .int .i64 0, .int .i64 0] 54)).alloc (.cells #[.int .u8 (k : Nat), .int .i64 0, .int .i64 0, .int .i64 0] 54)).heap.size := by simp only [World.alloc, Array.size_push]; omega
  clear hal hc1 h2 hsz hx0
  generalize (w.alloc (.cells #[.int .u8 0, .int .i64 0, .int .i64 0, .int .i64 0] 54)).alloc (.cells #[.int .u8 (k : Nat), .int .i64 0, .int .i64 0, .int .i64 0] 54) = w1 at *
  have hxc := HX1.out.box.c0
  go_wp2_with fail
  refine (HWD.out w1).mono ?_
  rintro e w2 ⟨rfl, hb2⟩
  have HN := Lib.hid (show NB w (w2.alloc (.cells #[.int .i64 (wa : Nat), .int .i64 (wb : Nat), .int .i64 (wn : Nat)] 98)) w2.heap.size k wa wb wn from by
    have q : Below w2.heap.size w2 (w2.alloc (.cells #[.int .i64 (wa : Nat), .int .i64 (wb : Nat), .int .i64 (wn : Nat)] 98)) := (Below.refl _ _).alloc (Nat.le_refl _) _
    exact ⟨(HR1.out.below hb2).below q, (HX1.out.below hb2).below q, heap_alloc_last w2 _, (HB1.out.trans (hb2.mono HB1.out.size)).trans (q.mono (Nat.le_trans HB1.out.size hb2.size)), Nat.lt_of_lt_of_le HZ1 hb2.size⟩)
  clear hb2 HR1 HX1 HB1 HZ1 hxc HWD
  unfold WV
  simp only
  go_upto_region 5 with fail
  obtain ⟨gw, hgw⟩ : ∃ g, g = w2.heap.size := ⟨_, rfl⟩
  rw [← hgw] at HN ⊢
  clear hgw
  generalize w2.alloc (.cells #[.int .i64 (wa : Nat), .int .i64 (wb : Nat), .int .i64 (wn : Nat)] 98) = w3 at *
  cases ok with
  | false =>
    have hr : nextR bs p = ⟨0, 0, 0, 0, 0, 8⟩ := HR.out
    have HRR := Lib.hid hr
    clear hr HR
    obtain ⟨c0, c1, c2, c3, f0, f1, f2, f3, lt4⟩ := HN.out.r.box
    go_wp2_with fail
    exact bodyPost_ret (results_cell_row_tmp2 rfl _ _ w.heap.size _ _ _ _ rfl HN.out.r.set Try.underlying54 rfl info4) rfl ⟨by rw [HRR.out]; rfl, HN.out.b.trans (keep44 _ _ _ _ _ _)⟩
  | true =>
    have HZ := Lib.hid (fun w' => size_any w' wa wb wn (by omega) (by omega) hn8)
    obtain ⟨sz, hsz⟩ : ∃ sz, sz = 1 + wa + wb + wn := ⟨_, rfl⟩
    have hszE : 1 + (wa : Int) + (wb : Int) + (wn : Int) = (sz : Int) := by omega
    rw [hszE] at HZ
    have hszl : sz ≤ 12 := by omega
    have hdf : (n : Int) - (p : Int) ≤ 1048576 := by omega
    obtain ⟨q0, q1, q2, g0, g1, g2, lt3⟩ := HN.out.q.box
    by_cases hsh : (n : Int) - p < sz
    · have hr : nextR bs p = ⟨0, 0, 0, 0, 0, 6⟩ := by
        rw [HR.out, if_neg (by simp), hszE, if_pos hsh]
      have HRR := Lib.hid hr
      have e1 := decide_eq_true hsh
      clear hr HR hsz hszE
      go_wp2_with fail
      refine (HZ.out w3).mono ?_
      rintro e w4 ⟨rfl, hb4⟩
      have HN4 := Lib.hid (HN.out.below hb4)
      obtain ⟨c0, c1, c2, c3, f0, f1, f2, f3, lt4⟩ := HN4.out.r.box
      clear q0 q1 q2 g0 g1 g2 lt3 HZ HN hb4
      go_wp2_with fail
      exact bodyPost_ret (results_cell_row_tmp2 rfl _ _ w.heap.size _ _ _ _ rfl HN4.out.r.set Try.underlying54 rfl info4) rfl ⟨by rw [HRR.out]; rfl, HN4.out.b.trans (keep44 _ _ _ _ _ _)⟩
    · have hr : nextR bs p = ⟨k, (getR bs ((p : Int) + 1) wa).1, (getR bs ((p : Int) + 1 + wa) wb).1, signB (getR bs ((p : Int) + 1 + wa + wb) wn).1 wn, sz, 0⟩ := by
        rw [HR.out, if_neg (by simp), hszE, if_neg hsh]
      have HRR := Lib.hid hr
      have e1 := decide_eq_false hsh
      clear hr HR
      obtain ⟨A, hA, hAl⟩ := get_small bs ((p : Int) + 1) wa ha
      obtain ⟨Bv, hB, hBl⟩ := get_small bs ((p : Int) + 1 + wa) wb (by omega)
      obtain ⟨V, hV, hVl⟩ := get_big bs ((p : Int) + 1 + wa + wb) wn hn8
      rw [hA, hB, hV] at HRR
      have HG1 := Lib.hid (fun w' (h : Sl encB w' (some ⟨b, off, none⟩) n bs) => Get_any w' (some ⟨b, off, none⟩) n cap bs ((p : Int) + 1) wa h hn hcap (by unfold IntR; omega) (by unfold IntR; omega))
      have HG2 := Lib.hid (fun w' (h : Sl encB w' (some ⟨b, off, none⟩) n bs) => Get_any w' (some ⟨b, off, none⟩) n cap bs ((p : Int) + 1 + wa) wb h hn hcap (by unfold IntR; omega) (by unfold IntR; omega))
      have HG3 := Lib.hid (fun w' (h : Sl encB w' (some ⟨b, off, none⟩) n bs) => Get_any w' (some ⟨b, off, none⟩) n cap bs ((p : Int) + 1 + wa + wb) wn h hn hcap (by unfold IntR; omega) (by unfold IntR; omega))
      rw [hA] at HG1
      rw [hB] at HG2
      rw [hV] at HG3
      generalize (getR bs ((p : Int) + 1) wa).2 = y1 at HG1
      generalize (getR bs ((p : Int) + 1 + wa) wb).2 = y2 at HG2
      generalize (getR bs ((p : Int) + 1 + wa + wb) wn).2 = y3 at HG3
      have HSG := Lib.hid (fun w' => Sign_any w' V wn ⟨by omega, by omega⟩ (by unfold IntR; omega))
      obtain ⟨N, hN⟩ : ∃ N, N = signB (V : Int) wn := ⟨_, rfl⟩
      rw [← hN] at HSG HRR
      clear hA hB hV hN
      clear hsz hszE
      go_wp2_with fail
      refine (HZ.out w3).mono ?_
      rintro e w4 ⟨rfl, hb4⟩
      have HN4 := Lib.hid (HN.out.below hb4)
      have HS4 := Lib.hid (HS.out.below HN4.out.b)
      clear q0 q1 q2 g0 g1 g2 lt3 HN hb4 HS
      obtain ⟨q0, q1, q2, g0, g1, g2, lt3⟩ := HN4.out.q.box
      go_wp2_with fail
      refine (HG1.out w4 HS4.out).mono ?_
      rintro e w' ⟨rfl, rfl⟩
      go_wp2_with fail
      refine (HG2.out w4 HS4.out).mono ?_
      rintro e w' ⟨rfl, rfl⟩
      go_wp2_with fail
      refine (HG3.out w4 HS4.out).mono ?_
      rintro e w' ⟨rfl, rfl⟩
      obtain ⟨x0, x1, x2, x3, h0, h1, h2, h3, ltx⟩ := HN4.out.x.box
      go_wp2_with fail
      refine (HSG.out w4).mono ?_
      rintro e w' ⟨rfl, rfl⟩
      go_upto_region 13 with fail
      have hgx : gw ≠ w.heap.size + 1 := by have := HN4.out.g; omega
      have X5 : Blk4 (((w4.setCell ⟨w.heap.size + 1, 1, none⟩ (.int .i64 (A : Nat))).setCell ⟨w.heap.size + 1, 2, none⟩ (.int .i64 (Bv : Nat))).setCell ⟨w.heap.size + 1, 3, none⟩ (.int .i64 N)) (w.heap.size + 1) (.int .u8 (k : Nat)) (.int .i64 (A : Nat)) (.int .i64 (Bv : Nat)) (.int .i64 N) 54 := HN4.out.x.set1.set2.set3
      have R5 : Blk4 (((w4.setCell ⟨w.heap.size + 1, 1, none⟩ (.int .i64 (A : Nat))).setCell ⟨w.heap.size + 1, 2, none⟩ (.int .i64 (Bv : Nat))).setCell ⟨w.heap.size + 1, 3, none⟩ (.int .i64 N)) w.heap.size (.int .u8 0) (.int .i64 0) (.int .i64 0) (.int .i64 0) 54 := ((HN4.out.r.other (by omega)).other (by omega)).other (by omega)
      have Q5 : Blk3 (((w4.setCell ⟨w.heap.size + 1, 1, none⟩ (.int .i64 (A : Nat))).setCell ⟨w.heap.size + 1, 2, none⟩ (.int .i64 (Bv : Nat))).setCell ⟨w.heap.size + 1, 3, none⟩ (.int .i64 N)) gw (.int .i64 (wa : Nat)) (.int .i64 (wb : Nat)) (.int .i64 (wn : Nat)) 98 := ((HN4.out.q.other hgx).other hgx).other hgx
      have B5 : Below w.heap.size w (((w4.setCell ⟨w.heap.size + 1, 1, none⟩ (.int .i64 (A : Nat))).setCell ⟨w.heap.size + 1, 2, none⟩ (.int .i64 (Bv : Nat))).setCell ⟨w.heap.size + 1, 3, none⟩ (.int .i64 N)) := ((HN4.out.b.setCell (by show w.heap.size ≤ w.heap.size + 1; omega) _).setCell (by show w.heap.size ≤ w.heap.size + 1; omega) _).setCell (by show w.heap.size ≤ w.heap.size + 1; omega) _
      have hgr : w.heap.size < gw := by have := HN4.out.g; omega
      clear x0 x1 x2 x3 h0 h1 h2 h3 ltx q0 q1 q2 g0 g1 g2 lt3 HN4 HS4 HG1 HG2 HG3 HSG
      generalize (((w4.setCell ⟨w.heap.size + 1, 1, none⟩ (.int .i64 (A : Nat))).setCell ⟨w.heap.size + 1, 2, none⟩ (.int .i64 (Bv : Nat))).setCell ⟨w.heap.size + 1, 3, none⟩ (.int .i64 N)) = w5 at *
      have HS5 := Lib.hid (show NS (w.heap.size + 1) gw k (A : Nat) (Bv : Nat) N wa wb wn w5.drew from ⟨X5, Q5⟩)
      have HR5 := Lib.hid (show Blk4 w5.drew w.heap.size (.int .u8 0) (.int .i64 0) (.int .i64 0) (.int .i64 0) 54 from R5)
      have HB5 := Lib.hid (B5.drew)
      clear X5 R5 Q5 B5
      have hSw : NS (w.heap.size + 1) gw k (A : Nat) (Bv : Nat) N wa wb wn w5.drew := HS5.out
      have l0 := fun z (h : NS (w.heap.size + 1) gw k (A : Nat) (Bv : Nat) N wa wb wn z) => h.1.box.c0
      have l1 := fun z (h : NS (w.heap.size + 1) gw k (A : Nat) (Bv : Nat) N wa wb wn z) => h.1.box.c1
      have l2 := fun z (h : NS (w.heap.size + 1) gw k (A : Nat) (Bv : Nat) N wa wb wn z) => h.1.box.c2
      have l3 := fun z (h : NS (w.heap.size + 1) gw k (A : Nat) (Bv : Nat) N wa wb wn z) => h.1.box.c3
      have l4 := fun z (h : NS (w.heap.size + 1) gw k (A : Nat) (Bv : Nat) N wa wb wn z) => h.2.box.c0
      have l5 := fun z (h : NS (w.heap.size + 1) gw k (A : Nat) (Bv : Nat) N wa wb wn z) => h.2.box.c1
      have l6 := fun z (h : NS (w.heap.size + 1) gw k (A : Nat) (Bv : Nat) N wa wb wn z) => h.2.box.c2
      refine wp_region_lexS (NS (w.heap.size + 1) gw k (A : Nat) (Bv : Nat) N wa wb wn) (.of [(0, true), (1, true), (2, false), (3, false)] (.stir [(4, true), (5, true)])) (by kernel_rfl) (by kernel_rfl) (fun c a d v w h => by cases d <;> exact h) ?_
      generalize w5.drew = w6 at *
      iterate 2
        refine lexS_step (fun K hK => ?_)
        simp only [lexOp, List.getElem?_toArray, List.getElem?_cons_succ, List.getElem?_cons_zero]
        rw [if_pos (by rfl)]
        apply Exists.intro
        refine ⟨fun w' hS' => ?_, hSw, ?_⟩
        · first | (go_simp <;> with_reducible rfl) | (go_simp; go_bits; with_reducible rfl)
        go_simp
        try go_bits
        refine hK _ _ ?_
        clear hK K
      refine lexS_step (fun K hK => ?_)
      simp only [lexOp, List.getElem?_toArray, List.getElem?_cons_succ, List.getElem?_cons_zero]
      rw [if_pos (by rfl)]
      go_step
      refine (HZ.out w6).mono ?_
      rintro e w7 ⟨rfl, hb7⟩
      have HS7 := Lib.hid (show NS (w.heap.size + 1) gw k (A : Nat) (Bv : Nat) N wa wb wn w7 from ⟨HS5.out.1.below hb7, HS5.out.2.below hb7⟩)
      have HR7 := Lib.hid (HR5.out.below hb7)
      have HB7 := Lib.hid (HB5.out.trans (hb7.mono HB5.out.size))
      replace hSw : NS (w.heap.size + 1) gw k (A : Nat) (Bv : Nat) N wa wb wn w7 := HS7.out
      clear hb7 HS5 HR5 HB5 l0 l1 l2 l3 l4 l5 l6
      refine ⟨hSw, ?_⟩
      go_simp
      refine hK _ _ ?_
      clear hK K
      obtain ⟨c0, c1, c2, c3, f0, f1, f2, f3, lt4⟩ := HR7.out.box
      refine lexS_step (fun K hK => ?_)
      simp only [lexOp, List.getElem?_toArray, List.getElem?_cons_succ, List.getElem?_cons_zero]
      rw [if_pos (by rfl)]
      go_step
      have n1 : w.heap.size + 1 ≠ w.heap.size := by omega
      have n2 : gw ≠ w.heap.size := by omega
      have hS8 : NS (w.heap.size + 1) gw k (A : Nat) (Bv : Nat) N wa wb wn ((((w7.setCell ⟨w.heap.size, 0, none⟩ (.int .u8 (k : Nat))).setCell ⟨w.heap.size, 1, none⟩ (.int .i64 (A : Nat))).setCell ⟨w.heap.size, 2, none⟩ (.int .i64 (Bv : Nat))).setCell ⟨w.heap.size, 3, none⟩ (.int .i64 N)) := ⟨(((HS7.out.1.other n1).other n1).other n1).other n1, (((HS7.out.2.other n2).other n2).other n2).other n2⟩
      have HR8 := Lib.hid (show Blk4 ((((w7.setCell ⟨w.heap.size, 0, none⟩ (.int .u8 (k : Nat))).setCell ⟨w.heap.size, 1, none⟩ (.int .i64 (A : Nat))).setCell ⟨w.heap.size, 2, none⟩ (.int .i64 (Bv : Nat))).setCell ⟨w.heap.size, 3, none⟩ (.int .i64 N)) w.heap.size (.int .u8 (k : Nat)) (.int .i64 (A : Nat)) (.int .i64 (Bv : Nat)) (.int .i64 N) 54 from HR7.out.set)
      have HB8 := Lib.hid (HB7.out.trans (keep44 w.heap.size w7 (.int .u8 (k : Nat)) (.int .i64 (A : Nat)) (.int .i64 (Bv : Nat)) (.int .i64 N)))
      refine ⟨hS8, hK _ _ ?_⟩
      clear hK K c0 c1 c2 c3 f0 f1 f2 f3 lt4 HS7 HR7 HB7 hSw
      generalize (((w7.setCell ⟨w.heap.size, 0, none⟩ (.int .u8 (k : Nat))).setCell ⟨w.heap.size, 1, none⟩ (.int .i64 (A : Nat))).setCell ⟨w.heap.size, 2, none⟩ (.int .i64 (Bv : Nat))).setCell ⟨w.heap.size, 3, none⟩ (.int .i64 N) = w8 at *
      refine lexS_stir (fun y => y = w8) (fun y hy => hy ▸ hS8) rfl ?_
      iterate 2
        refine stir_step (fun K hK => ?_)
        simp only [stirOp, List.getElem?_toArray, List.getElem?_cons_succ, List.getElem?_cons_zero]
        rw [if_pos (by rfl)]
        apply Exists.intro
        refine ⟨fun w' hS' => ?_, ?_⟩
        · first | (go_simp <;> with_reducible rfl) | (go_simp; go_bits; with_reducible rfl)
        go_simp
        try go_bits
        refine hK _ ?_
        clear hK K
      refine stir_nil (fun y hy => ?_)
      obtain rfl : w8 = y := hy.symm
      go_wp2_with fail
      exact bodyPost_ret (results_cell_row_tmp2 rfl _ _ w.heap.size _ _ _ _ rfl HR8.out Try.underlying54 rfl info4) rfl ⟨by rw [HRR.out]; rfl, HB8.out⟩
end Go.Proofs.Ytbcldlbmbdfejaa
