/- A region that draws its order, walked once: what only reads, and what makes memory but yields one value wherever S holds, comes in the order of the prover's choosing. Over any program. -/
import Derived.Test.YtnfhiakdbakpgaaQ03KlassCuts
import Derived.Deep.LoopGhost
import Derived.Deep.DeepCutAuto
import Derived.Test.YtnfhiakdbakpgaaQ01KlassCuts
namespace Go.Proofs.Ytnfhiakdbakpgaa
open Go.RowKit
/-- An operation whose run is r: it leaves v, and S holds behind it. -/
def Stirs (P : Program) (S : World → Prop) (v : Value) : Result Next → Prop
  | .ok (.value u) w' => u = v ∧ S w'
  | .ok (.enter f args) w' => Calls P f args w' fun e w'' => e = .returned v ∧ S w''
  | _ => False
def StirsIf (P : Program) (ops : Array Oper) (S : World → Prop) (o : Oper) (v : Value) (a : Act) : Prop :=
  (Region.wanted o (yielded ops a.tmps) = true ∧ ∀ w, S w → Stirs P S v ((execOp a.eval o).run P w)) ∨
  (Region.wanted o (yielded ops a.tmps) = false ∧ v = undef)
section
variable {P : Program} {ops : Array Oper} {Q : Exit → Act → World → Prop} {md : Region.Mode} {S : World → Prop}
theorem StirsIf.of_same {o : Oper} {v : Value} {a a' : Act} (hy : StirsIf P ops S o v a) (he : execOp a'.eval o = execOp a.eval o)
    (hw : Region.wanted o (yielded ops a'.tmps) = Region.wanted o (yielded ops a.tmps)) : StirsIf P ops S o v a' := by
  unfold StirsIf at *
  rw [he, hw]
  exact hy
theorem Stirs.wp {o : Oper} {v : Value} {a : Act} {w : World} {K : Act → World → Prop} (h : Stirs P S v ((execOp a.eval o).run P w)) (hK : ∀ w', S w' → K (a.put o.dst v) w') : o.wp P a w K Q := by
  unfold Oper.wp
  generalize (execOp a.eval o).run P w = r at *
  cases r with
  | ok n w' =>
    cases n <;> simp only [Stirs, Oper.upon] at h ⊢
    case value u => obtain ⟨rfl, hs⟩ := h; exact hK _ hs
    case enter f args =>
      refine Calls.mono h fun e w'' he => ?_
      obtain ⟨rfl, hs⟩ := he
      exact hK _ hs
  | halt x w' => cases x <;> simp only [Stirs] at h
theorem StirsIf.wpOp {i : Nat} {o : Oper} {v : Value} {a : Act} (hi : ops[i]? = some o) (hy : StirsIf P ops S o v a)
    {K : Act → World → Prop} {w : World} (hS : S w) (h : ∀ w', S w' → K (a.put o.dst v) w') : wpOp P ops Q i K a w := by
  unfold Go.wpOp
  simp only [hi]
  rcases hy with ⟨hw, hv⟩ | ⟨hw, rfl⟩
  · simp only [hw, if_true]; exact .inl ((hv w hS).wp h)
  · simp only [hw, Bool.false_eq_true, if_false]; exact h w hS
/-- One operation of a stretch in which each yields one value wherever S holds. 'b' true: it only reads. -/
def stirOp (P : Program) (ops : Array Oper) (S : World → Prop) (i : Nat) (b : Bool) (K : Act → Prop) (a : Act) : Prop :=
  match ops[i]? with
  | none => False
  | some o =>
    if Region.wanted o (yielded ops a.tmps) = true then
      (match b with
        | true => ∃ v, (∀ w', S w' → (execOp a.eval o).run P w' = .ok (.value v) w') ∧ K (a.put o.dst v)
        | false => ∃ v, (∀ w', S w' → Stirs P S v ((execOp a.eval o).run P w')) ∧ K (a.put o.dst v))
    else K (a.put o.dst undef)
def wpStir (P : Program) (ops : Array Oper) (Q : Exit → Act → World → Prop) (S : World → Prop) : List (Nat × Bool) → Act → Prop
  | [], a => ∀ w, S w → Q .normal a w
  | (i, b) :: l, a => stirOp P ops S i b (wpStir P ops Q S l) a
def wpStir1 (P : Program) (ops : Array Oper) (Q : Exit → Act → World → Prop) (S : World → Prop) : List Nat → Act → Prop
  | [], a => ∀ w, S w → Q .normal a w
  | i :: l, a => ∃ o v, ops[i]? = some o ∧ StirsIf P ops S o v a ∧ wpStir1 P ops Q S l (a.put o.dst v)
theorem wpStir_1 : ∀ (l : List (Nat × Bool)) (a : Act), wpStir P ops Q S l a → wpStir1 P ops Q S (l.map (·.1)) a := by
  intro l
  induction l with
  | nil => exact fun a h => h
  | cons p l ih =>
    obtain ⟨i, b⟩ := p
    intro a h
    change stirOp P ops S i b (wpStir P ops Q S l) a at h
    unfold stirOp at h
    cases ho : ops[i]? with
    | none => rw [ho] at h; exact h.elim
    | some o =>
      rw [ho] at h
      simp only at h
      by_cases hw : Region.wanted o (yielded ops a.tmps) = true
      · rw [if_pos hw] at h
        cases b with
        | true =>
          obtain ⟨v, h1, h2⟩ := h
          exact ⟨o, v, ho, .inl ⟨hw, fun w hs => by rw [h1 w hs]; exact ⟨rfl, hs⟩⟩, ih _ h2⟩
        | false =>
          obtain ⟨v, h1, h2⟩ := h
          exact ⟨o, v, ho, .inl ⟨hw, h1⟩, ih _ h2⟩
      · rw [if_neg hw] at h
        exact ⟨o, undef, ho, .inr ⟨by simpa using hw, rfl⟩, ih _ h⟩
def FreeP (ops : Array Oper) (listed : Array Bool) (i : Nat) : Prop :=
  ∀ oi, ops[i]? = some oi → ∀ j oj, ops[j]? = some oj → j ≠ i → listed.getD j true = false → (∀ e ∈ oj.after, Region.binds .any e = true → e.on ≠ i) → oi.apart ops oj = true
def CheckS (ops : Array Oper) : Array Bool → List Nat → Prop
  | listed, [] => Region.ready .any ops listed = []
  | listed, i :: l => i ∈ Region.ready .any ops listed ∧ FreeP ops listed i ∧ CheckS ops (listed.setIfInBounds i true) l
theorem FreeP.mono {listed : Array Bool} {i j : Nat} (h : FreeP ops listed i) : FreeP ops (listed.setIfInBounds j true) i := by
  intro oi hi k ok hk hki hun hno
  refine h oi hi k ok hk hki ?_ hno
  by_cases hjk : j = k
  · subst hjk
    by_cases hl : j < listed.size
    · simp [hl] at hun
    · rw [Array.setIfInBounds_eq_of_size_le (by omega)] at hun; exact hun
  · rw [getD_set_ne true hjk] at hun; exact hun
theorem stir_move (hs : Region.noSelect ops = true) : ∀ (l : List Nat) (listed : Array Bool) (j : Nat), CheckS ops listed l → j ∈ Region.ready .any ops listed →
    j ∈ l ∧ CheckS ops (listed.setIfInBounds j true) (l.erase j) ∧ ∀ a, wpStir1 P ops Q S l a → wpStir1 P ops Q S (j :: l.erase j) a := by
  intro l
  induction l with
  | nil => intro listed j hc hj; rw [show Region.ready .any ops listed = [] from hc] at hj; cases hj
  | cons i l ih =>
    intro listed j hc hj
    obtain ⟨hr, hf, hc'⟩ := hc
    by_cases hji : j = i
    · subst hji
      simp only [List.erase_cons_head]
      exact ⟨by simp, hc', fun a h => h⟩
    · obtain ⟨hjl, hcj, hmv⟩ := ih _ j hc' (ready_mono hj hji)
      have hij : (i == j) = false := by simp [Ne.symm hji]
      rw [List.erase_cons_tail (by rw [hij]; decide)]
      refine ⟨by simp [hjl], ⟨ready_mono hr (Ne.symm hji), hf.mono, ?_⟩, fun a h => ?_⟩
      · rw [Array.setIfInBounds_comm _ _ hji]; exact hcj
      · obtain ⟨oi, v, hoi, hyi, hrest⟩ := h
        obtain ⟨oj, u, hoj, hyj, hrest'⟩ := hmv _ hrest
        obtain ⟨hjun, oj', hoj', hall⟩ := mem_ready.1 hj
        obtain rfl : oj' = oj := by rw [hoj] at hoj'; exact (Option.some.inj hoj').symm
        have hnot : ∀ e ∈ oj'.after, Region.binds .any e = true → e.on ≠ i := fun e he hb heq => by
          have h1 := hall e he hb
          have h0 := (mem_ready.1 hr).1
          rw [heq] at h1
          rcases Nat.lt_or_ge i listed.size with h' | h'
          · simp [h'] at h0 h1; rw [h0] at h1; cases h1
          · simp [Array.getElem?_eq_none h'] at h1
        have hap := hf oi hoi j oj' hoj hji hjun hnot
        obtain ⟨h1, h2, h3⟩ := Oper.apart_spec hap
        have hsi : ∀ cs b, oi.op ≠ .select cs b := fun cs b => Region.noSelect_spec hs i oi cs b hoi
        have hsj : ∀ cs b, oj'.op ≠ .select cs b := fun cs b => Region.noSelect_spec hs j oj' cs b hoj
        have hyj' : StirsIf P ops S oj' u a := hyj.of_same (execOp_put oj' hsj a oi.dst v h1).symm (wanted_put oj' a oi.dst v h1).symm
        refine ⟨oj', u, hoj, hyj', oi, v, hoi, hyi.of_same (execOp_put oi hsi a oj'.dst u h3) (wanted_put oi a oj'.dst u h3), ?_⟩
        rw [← Act.put_comm a v u h2]
        exact hrest'
theorem stir_sound (hs : Region.noSelect ops = true) : ∀ (n : Nat) (l : List Nat) (listed : Array Bool) (a : Act), l.length = n → CheckS ops listed l → wpStir1 P ops Q S l a →
    ∀ w, S w → wpAnyH P .any ops Q S n listed a w := by
  intro n
  induction n with
  | zero =>
    intro l listed a hl hc h w hS
    obtain rfl := List.eq_nil_of_length_eq_zero hl
    exact ⟨hc, h w hS⟩
  | succ n ih =>
    intro l listed a hl hc h w hS
    refine ⟨fun h0 => ?_, fun j hj => ?_⟩
    · cases l with
      | nil => simp at hl
      | cons i l => obtain ⟨hr, _⟩ := hc; rw [h0] at hr; cases hr
    · obtain ⟨hjl, hcj, hmv⟩ := stir_move (P := P) (Q := Q) (S := S) hs l listed j hc hj
      obtain ⟨o, v, ho, hy, hrest⟩ := hmv a h
      refine hy.wpOp ho hS fun w' hs' => ⟨hs', ?_⟩
      exact ih (l.erase j) _ _ (by rw [List.length_erase_of_mem hjl]; omega) hcj hrest w' hs'
/-- An order: 'step' as in XRegionT; 'stir': from here on each yields one value wherever S holds. -/
inductive LexS where
  | stir : List (Nat × Bool) → LexS
  | step : Nat → Bool → LexS → LexS
  | fork : Nat → LexS → Nat → LexS → LexS
  | fork3 : Nat → LexS → Nat → LexS → Nat → LexS → LexS
def wpLexS (P : Program) (ops : Array Oper) (Q : Exit → Act → World → Prop) : LexS → (World → Prop) → Act → World → Prop
  | .stir l, S, a, w => ∃ S' : World → Prop, (∀ x, S' x → S x) ∧ S' w ∧ wpStir P ops Q S' l a
  | .step i b l, S, a, w => ∃ S' : World → Prop, (∀ x, S' x → S x) ∧ lexOp P ops Q S' i b (wpLexS P ops Q l S') a w
  | .fork i l j m, S, a, w => ∃ S' : World → Prop, (∀ x, S' x → S x) ∧ lexOp P ops Q S' i false (wpLexS P ops Q l S') a w ∧ lexOp P ops Q S' j false (wpLexS P ops Q m S') a w
  | .fork3 i l j m k r, S, a, w => ∃ S' : World → Prop, (∀ x, S' x → S x) ∧ lexOp P ops Q S' i false (wpLexS P ops Q l S') a w ∧ lexOp P ops Q S' j false (wpLexS P ops Q m S') a w ∧ lexOp P ops Q S' k false (wpLexS P ops Q r S') a w
def checkStir (ops : Array Oper) : Array Bool → List (Nat × Bool) → Bool
  | listed, [] => (Region.ready .any ops listed).isEmpty
  | listed, (i, _) :: l => Region.free .any ops listed i && (Region.ready .any ops listed).contains i && checkStir ops (listed.setIfInBounds i true) l
def checkS (ops : Array Oper) : Nat → Array Bool → LexS → Bool
  | n, listed, .stir l => (l.length == n) && checkStir ops listed l
  | n + 1, listed, .step i b l => (if b then Region.free .any ops listed i && (Region.ready .any ops listed).contains i else Region.ready .any ops listed == [i]) && checkS ops n (listed.setIfInBounds i true) l
  | n + 1, listed, .fork i l j m => (Region.ready .any ops listed == [i, j]) && checkS ops n (listed.setIfInBounds i true) l && checkS ops n (listed.setIfInBounds j true) m
  | n + 1, listed, .fork3 i l j m k r => (Region.ready .any ops listed == [i, j, k]) && checkS ops n (listed.setIfInBounds i true) l && checkS ops n (listed.setIfInBounds j true) m && checkS ops n (listed.setIfInBounds k true) r
  | _, _, _ => false
theorem checkStir_P : ∀ (l : List (Nat × Bool)) (listed : Array Bool), checkStir ops listed l = true → CheckS ops listed (l.map (·.1)) := by
  intro l
  induction l with
  | nil => intro listed h; show Region.ready .any ops listed = []; simpa [checkStir] using h
  | cons p l ih =>
    obtain ⟨i, b⟩ := p
    intro listed h
    simp only [checkStir, Bool.and_eq_true] at h
    obtain ⟨⟨hf, hr⟩, hc⟩ := h
    exact ⟨by simpa using hr, fun oi hoi => Region.free_spec hoi hf, ih _ hc⟩
theorem lexS_sound (hs : Region.noSelect ops = true) (hQ : ∀ c a d v w, Q (.panic c) (a.put d v) w → Q (.panic c) a w) :
    ∀ (l : LexS) (S : World → Prop) (n : Nat) (listed : Array Bool) (a : Act) (w : World), checkS ops n listed l = true → wpLexS P ops Q l S a w → wpAnyH P .any ops Q S n listed a w := by
  intro l
  induction l with
  | stir l =>
    intro S n listed a w hc h
    have hc' : ((l.length == n) && checkStir ops listed l) = true := by cases n <;> exact hc
    simp only [Bool.and_eq_true, beq_iff_eq] at hc'
    obtain ⟨hl, hk⟩ := hc'
    obtain ⟨S', hSS, hw, h⟩ := h
    exact wpAnyH_mono hSS _ _ _ _ (stir_sound hs n (l.map (·.1)) listed a (by simpa using hl) (checkStir_P _ _ hk) (wpStir_1 _ _ h) w hw)
  | step i b l ih =>
    intro S n listed a w hc h
    cases n with
    | zero => simp [checkS] at hc
    | succ n =>
    simp only [checkS, Bool.and_eq_true] at hc
    obtain ⟨hc1, hc2⟩ := hc
    obtain ⟨S', hSS, h⟩ := h
    refine wpAnyH_mono hSS _ _ _ _ ?_
    unfold lexOp at h
    cases ho : ops[i]? with
    | none => rw [ho] at h; exact h.elim
    | some o =>
      rw [ho] at h
      simp only at h
      cases b with
      | true =>
        simp only [if_true, Bool.and_eq_true] at hc1
        obtain ⟨hf, hr⟩ := hc1
        by_cases hw : Region.wanted o (yielded ops a.tmps) = true
        · rw [if_pos hw] at h
          obtain ⟨v, h1, h2, h3⟩ := h
          exact wpAnyH_take ho hs hf hr (fun c a w => hQ c a _ _ w) (.inl ⟨hw, h1⟩) h2 (ih _ _ _ _ _ hc2 h3)
        · rw [if_neg hw] at h
          exact wpAnyH_take ho hs hf hr (fun c a w => hQ c a _ _ w) (.inr ⟨by simpa using hw, rfl⟩) h.1 (ih _ _ _ _ _ hc2 h.2)
      | false =>
        simp only [Bool.false_eq_true, if_false] at hc1
        have hr : Region.ready .any ops listed = [i] := by simpa using hc1
        refine wpAnyH_all hr (by simp) (fun j hj => ?_)
        obtain rfl : j = i := by simpa using hj
        unfold wpOp
        rw [ho]
        simp only
        by_cases hw : Region.wanted o (yielded ops a.tmps) = true
        · rw [if_pos hw] at h
          simp only [hw, if_true]
          exact .inl (Oper.wp_mono (fun a' w' h' => ⟨h'.1, ih _ _ _ _ _ hc2 h'.2⟩) h)
        · rw [if_neg hw] at h
          simp only [hw]
          exact ⟨h.1, ih _ _ _ _ _ hc2 h.2⟩
  | fork i l j m ih1 ih2 =>
    intro S n listed a w hc h
    cases n with
    | zero => simp [checkS] at hc
    | succ n =>
    simp only [checkS, Bool.and_eq_true] at hc
    obtain ⟨⟨hc1, hc2⟩, hc3⟩ := hc
    have hr : Region.ready .any ops listed = [i, j] := by simpa using hc1
    obtain ⟨S', hSS, h1, h2⟩ := h
    refine wpAnyH_mono hSS _ _ _ _ ?_
    refine wpAnyH_all hr (by simp) (fun k hk => ?_)
    have hk' : k = i ∨ k = j := by simpa using hk
    rcases hk' with rfl | rfl
    · unfold lexOp at h1
      cases ho : ops[k]? with
      | none => rw [ho] at h1; exact h1.elim
      | some o =>
        rw [ho] at h1
        simp only at h1
        unfold wpOp
        rw [ho]
        simp only
        by_cases hw : Region.wanted o (yielded ops a.tmps) = true
        · rw [if_pos hw] at h1
          simp only [hw, if_true]
          exact .inl (Oper.wp_mono (fun a' w' h' => ⟨h'.1, ih1 _ _ _ _ _ hc2 h'.2⟩) h1)
        · rw [if_neg hw] at h1
          simp only [hw]
          exact ⟨h1.1, ih1 _ _ _ _ _ hc2 h1.2⟩
    · unfold lexOp at h2
      cases ho : ops[k]? with
      | none => rw [ho] at h2; exact h2.elim
      | some o =>
        rw [ho] at h2
        simp only at h2
        unfold wpOp
        rw [ho]
        simp only
        by_cases hw : Region.wanted o (yielded ops a.tmps) = true
        · rw [if_pos hw] at h2
          simp only [hw, if_true]
          exact .inl (Oper.wp_mono (fun a' w' h' => ⟨h'.1, ih2 _ _ _ _ _ hc3 h'.2⟩) h2)
        · rw [if_neg hw] at h2
          simp only [hw]
          exact ⟨h2.1, ih2 _ _ _ _ _ hc3 h2.2⟩
  | fork3 i l j m k r ih1 ih2 ih3 =>
    intro S n listed a w hc h
    cases n with
    | zero => simp [checkS] at hc
    | succ n =>
    simp only [checkS, Bool.and_eq_true] at hc
    obtain ⟨⟨⟨hc1, hc2⟩, hc3⟩, hc4⟩ := hc
    have hr : Region.ready .any ops listed = [i, j, k] := by simpa using hc1
    obtain ⟨S', hSS, h1, h2, h3⟩ := h
    refine wpAnyH_mono hSS _ _ _ _ ?_
    have one : ∀ (x : Nat) (y : LexS), (∀ (a : Act) (w : World), wpLexS P ops Q y S' a w → wpAnyH P .any ops Q S' n (listed.setIfInBounds x true) a w) → lexOp P ops Q S' x false (wpLexS P ops Q y S') a w →
        wpOp P ops Q x (fun a' w' => S' w' ∧ wpAnyH P .any ops Q S' n (listed.setIfInBounds x true) a' w') a w := by
      intro x y ih h1
      unfold lexOp at h1
      cases ho : ops[x]? with
      | none => rw [ho] at h1; exact h1.elim
      | some o =>
        rw [ho] at h1
        simp only at h1
        unfold wpOp
        rw [ho]
        simp only
        by_cases hw : Region.wanted o (yielded ops a.tmps) = true
        · rw [if_pos hw] at h1
          simp only [hw, if_true]
          exact .inl (Oper.wp_mono (fun a' w' h' => ⟨h'.1, ih _ _ h'.2⟩) h1)
        · rw [if_neg hw] at h1
          simp only [hw]
          exact ⟨h1.1, ih _ _ h1.2⟩
    refine wpAnyH_all hr (by simp) (fun x hx => ?_)
    have hx' : x = i ∨ x = j ∨ x = k := by simpa using hx
    rcases hx' with rfl | rfl | rfl
    · exact one _ l (fun a w h => ih1 _ _ _ _ _ hc2 h) h1
    · exact one _ m (fun a w h => ih2 _ _ _ _ _ hc3 h) h2
    · exact one _ r (fun a w h => ih3 _ _ _ _ _ hc4 h) h3
def LexS.of : List (Nat × Bool) → LexS → LexS
  | [], t => t
  | (i, b) :: l, t => .step i b (LexS.of l t)
theorem wp_region_lexS {id : Nat} {a : Act} {w : World} (S : World → Prop) (l : LexS) (hm : P.follows .mixedOrders = true)
    (hc : (Region.noSelect ops && checkS ops ops.size (Array.replicate ops.size false) l) = true) (hQ : ∀ c a d v w, Q (.panic c) (a.put d v) w → Q (.panic c) a w)
    (h : wpLexS P ops Q l S a w.drew) : (Code.region id ops true).wp P Q a w := by
  simp only [Bool.and_eq_true] at hc
  obtain ⟨hs, hk⟩ := hc
  exact wp_region_held hm (lexS_sound (P := P) (Q := Q) hs hQ l S _ _ a _ hk h)
theorem lexS_step {i : Nat} {b : Bool} {l : LexS} {a : Act} {w : World}
    (h : ∀ K : Act → World → Prop, (∀ a w, wpLexS P ops Q l S a w → K a w) → lexOp P ops Q S i b K a w) : wpLexS P ops Q (.step i b l) S a w := ⟨S, fun _ h => h, h _ (fun _ _ h => h)⟩
theorem lexS_fork {i j : Nat} {l m : LexS} {a : Act} {w : World}
    (h1 : ∀ K : Act → World → Prop, (∀ a w, wpLexS P ops Q l S a w → K a w) → lexOp P ops Q S i false K a w) (h2 : ∀ K : Act → World → Prop, (∀ a w, wpLexS P ops Q m S a w → K a w) → lexOp P ops Q S j false K a w) : wpLexS P ops Q (.fork i l j m) S a w :=
  ⟨S, fun _ h => h, h1 _ (fun _ _ h => h), h2 _ (fun _ _ h => h)⟩
theorem lexS_fork3 {i j k : Nat} {l m r : LexS} {a : Act} {w : World}
    (h1 : ∀ K : Act → World → Prop, (∀ a w, wpLexS P ops Q l S a w → K a w) → lexOp P ops Q S i false K a w) (h2 : ∀ K : Act → World → Prop, (∀ a w, wpLexS P ops Q m S a w → K a w) → lexOp P ops Q S j false K a w)
    (h3 : ∀ K : Act → World → Prop, (∀ a w, wpLexS P ops Q r S a w → K a w) → lexOp P ops Q S k false K a w) : wpLexS P ops Q (.fork3 i l j m k r) S a w :=
  ⟨S, fun _ h => h, h1 _ (fun _ _ h => h), h2 _ (fun _ _ h => h), h3 _ (fun _ _ h => h)⟩
theorem lexS_stir {l : List (Nat × Bool)} {a : Act} {w : World} (S' : World → Prop) (hSS : ∀ x, S' x → S x) (hS : S' w) (h : wpStir P ops Q S' l a) : wpLexS P ops Q (.stir l) S a w := ⟨S', hSS, hS, h⟩
/-- From here on more is known of the worlds. -/
theorem lexS_strong {l : LexS} {a : Act} {w : World} (S' : World → Prop) (hS : ∀ x, S' x → S x) (h : wpLexS P ops Q l S' a w) : wpLexS P ops Q l S a w := by
  cases l with
  | stir l => obtain ⟨S2, h2, h3⟩ := h; exact ⟨S2, fun x hx => hS x (h2 x hx), h3⟩
  | step i b l => obtain ⟨S2, h2, h3⟩ := h; exact ⟨S2, fun x hx => hS x (h2 x hx), h3⟩
  | fork i l j m => obtain ⟨S2, h2, h3⟩ := h; exact ⟨S2, fun x hx => hS x (h2 x hx), h3⟩
  | fork3 i l j m k r => obtain ⟨S2, h2, h3⟩ := h; exact ⟨S2, fun x hx => hS x (h2 x hx), h3⟩
theorem stir_step {i : Nat} {b : Bool} {l : List (Nat × Bool)} {a : Act}
    (h : ∀ K : Act → Prop, (∀ a, wpStir P ops Q S l a → K a) → stirOp P ops S i b K a) : wpStir P ops Q S ((i, b) :: l) a := h _ (fun _ h => h)
theorem stir_nil {a : Act} (h : ∀ w, S w → Q .normal a w) : wpStir P ops Q S [] a := h
theorem Stirs.call {v : Value} {f : FuncId} {args : Array Value} {w' : World} (h : Calls P f args w' fun e w'' => e = .returned v ∧ S w'') : Stirs P S v (.ok (.enter f args) w') := h
end
end Go.Proofs.Ytnfhiakdbakpgaa
/- pool: Check. No condition. -/
namespace Go.Proofs.Ytnfhiakdbakpgaa
open Go.ChangeShapes Go.WideShapes Go.ChangeAt Go.RowKit
theorem konst_fields : Try.prog.underlying 42 = some (.struct (Try.prog.fieldsOf 42)) := by kernel_rfl
theorem konst_held : Try.prog.stoodInHeld 42 = false := by kernel_rfl
theorem konst_guard : Try.prog.eqGuardType Try.prog.depth 42 = false := by kernel_rfl
theorem konst_list : (Try.prog.fieldsOf 42).toList.map (fun f => (f.name, f.type, f.offset)) = [("Tag", 3, 0), ("A", 3, 1), ("B", 3, 2), ("N", 2, 3), ("S", 9, 4)] := by kernel_rfl
/-- Are two constants the same? -/
def sameK (c d : KV) : Bool := decide (c.tag = d.tag ∧ c.a = d.a ∧ c.b = d.b ∧ c.n = d.n ∧ c.s = d.s)
theorem bytes_toList (l : List UInt8) : (⟨l.toArray⟩ : ByteArray).toList = l := by rw [ByteArray.toList_eq]
theorem run_equalK (w : World) (d : Nat) (x y : KV) : (Op.equalIn (d + 1 + 1) 42 (kV x) (kV y)).run Try.prog w = .ok (sameK x y) w := by
  unfold kV
  rw [run_equalIn_struct w (d + 1) _ _ _ konst_fields konst_held]
  have hl := konst_list
  match hf : (Try.prog.fieldsOf 42).toList, hl with
  | [f0, f1, f2, f3, f4], hl =>
    simp only [List.map_cons, List.map_nil, List.cons.injEq, Prod.mk.injEq, and_true] at hl
    obtain ⟨⟨n0, t0, o0⟩, ⟨n1, t1, o1⟩, ⟨n2, t2, o2⟩, ⟨n3, t3, o3⟩, ⟨n4, t4, o4⟩⟩ := hl
    simp only [Op.eqFields, n0, n1, n2, n3, n4, t0, t1, t2, t3, t4, o0, o1, o2, o3, o4]
    have b : ∀ (e : Value) (i : Nat) (t : TypeId) (d' : TypeDesc) (cs : Array Value) (w : World), Try.prog.underlying t = some d' → (match d' with | .struct _ | .array _ _ => false | _ => true) = true → cs[i]? = some e → (part t cs i).run Try.prog w = .ok e w := by
      intro e i t d' cs w h1 h2 h3
      cases d' <;> simp [part, isAgg, run_underlying h1, h3] at h2 ⊢
    have i0 : ∀ (i : Nat) (cs : Array Value) (w : World) (h : i < cs.size), (part 3 cs i).run Try.prog w = .ok cs[i] w := fun i cs w h => b _ i _ _ cs w Try.underlying3 rfl (Array.getElem?_eq_getElem h)
    have i3 : ∀ (i : Nat) (cs : Array Value) (w : World) (h : i < cs.size), (part 2 cs i).run Try.prog w = .ok cs[i] w := fun i cs w h => b _ i _ _ cs w Try.underlying2 rfl (Array.getElem?_eq_getElem h)
    have i4 : ∀ (i : Nat) (cs : Array Value) (w : World) (h : i < cs.size), (part 9 cs i).run Try.prog w = .ok cs[i] w := fun i cs w h => b _ i _ _ cs w Try.underlying9 rfl (Array.getElem?_eq_getElem h)
    by_cases g0 : x.tag = y.tag
    · by_cases g1 : x.a = y.a
      · by_cases g2 : x.b = y.b
        · by_cases g3 : x.n = y.n
          · simp [i0, i3, i4, run_equalIn_int _ _ _ _ _ _ _ Try.underlying3, run_equalIn_int _ _ _ _ _ _ _ Try.underlying2, run_equalIn_string _ _ _ _ _ Try.underlying9, g0, g1, g2, g3, sameK, bytes_toList]
            by_cases g4 : x.s = y.s <;> simp [g4]
          · simp [i0, i3, i4, run_equalIn_int _ _ _ _ _ _ _ Try.underlying3, run_equalIn_int _ _ _ _ _ _ _ Try.underlying2, g0, g1, g2, g3, sameK]
        · simp [i0, i3, i4, run_equalIn_int _ _ _ _ _ _ _ Try.underlying3, g0, g1, g2, sameK]
      · simp [i0, run_equalIn_int _ _ _ _ _ _ _ Try.underlying3, g0, g1, sameK]
    · simp [i0, run_equalIn_int _ _ _ _ _ _ _ Try.underlying3, g0, sameK]
  | [], hl | [_], hl | [_, _], hl | [_, _, _], hl | [_, _, _, _], hl | _ :: _ :: _ :: _ :: _ :: _ :: _, hl => simp at hl
theorem run_neqK (w : World) (x y : KV) (o1 o2 : Operand) : ((eqGuard .neq 42 o1 o2 (kV x) (kV y)).run Try.prog w).andThen (fun _ w' => (binOp .neq 42 (kV x) (kV y)).run Try.prog w') = .ok (.bool (!sameK x y)) w := by
  have h := run_equalK w 9998 x y
  unfold kV at h ⊢
  rw [run_eqGuard_agg w _ _ _ _ _ _ konst_guard, Result.andThen_ok, run_neq_struct, h, Result.andThen_ok]
/-- A place is bare just if it is the same without what it may not have. -/
theorem sameK_bare (c : KV) : sameK c (bareV c) = bareOk c := by
  obtain ⟨t, a, b, n, s⟩ := c
  unfold sameK bareV bareOk wrap32
  rw [Bool.eq_iff_iff]
  by_cases h1 : t = 1 <;> by_cases h3 : t = 3 <;> by_cases h5 : t = 5 <;> by_cases h9 : t = 9 <;> by_cases h10 : t = 10 <;> by_cases h12 : t = 12 <;> by_cases h7 : t = 7 <;> by_cases h8 : t = 8 <;> first | (exfalso; omega) | (simp [h1, h3, h5, h9, h10, h12, h7, h8]; done) | (simp [h1, h3, h5, h9, h10, h12, h7, h8]; omega) | (simp [h1, h3, h5, h9, h10, h12, h7, h8]; grind)
theorem run_exec_bin {P : Program} {ρ : Operand → Value} {o : Oper} {op : BinOp} {t : TypeId} {x y : Operand} {ty : TypeId} (ho : o.op = .binOp op t x y ty) {v : Value} {w : World}
    (h : ((eqGuard op t x y (ρ x) (ρ y)).run P w).andThen (fun _ w' => (binOp op t (ρ x) (ρ y)).run P w') = .ok v w) : (execOp ρ o).run P w = .ok (.value v) w := by
  unfold execOp
  simp only [ho, Sem.run_bind, Sem.run_pure]
  rw [h]
  rfl
def CheckRet (L : List KV) (w : World) (e : Ending) (w' : World) : Prop := e = .returned (.int .i64 (if poolOk L then 0 else 8)) ∧ Below w.heap.size w w'
theorem poolOk_len {L : List KV} (h : L.length = 0 ∨ 1024 < L.length) : poolOk L = false := by
  unfold poolOk
  rcases h with h | h
  · rw [decide_eq_false (show ¬ 1 ≤ L.length by omega)]; rfl
  · rw [decide_eq_false (show ¬ L.length ≤ 1024 by omega)]; simp
theorem poolOk_tag {L : List KV} (h : (kAt L 0).tag ≠ 0) : poolOk L = false := by
  unfold poolOk
  rw [decide_eq_false h]; simp
theorem poolOk_bad {L : List KV} (j : Nat) (hj : j < L.length) (h : placeOk L j = false) : poolOk L = false := by
  unfold poolOk
  have : (List.range L.length).all (placeOk L) = false := by
    rw [List.all_eq_false]
    exact ⟨j, by simpa using hj, by simp [h]⟩
  rw [this]; simp
theorem poolOk_good {L : List KV} (h1 : 1 ≤ L.length) (h2 : L.length ≤ 1024) (h3 : (kAt L 0).tag = 0) (h : ∀ k, k < L.length → placeOk L k = true) : poolOk L = true := by
  unfold poolOk
  rw [decide_eq_true h1, decide_eq_true h2, decide_eq_true h3]
  simp
  exact h
theorem poolOk_parts {L : List KV} (h : poolOk L = true) : 1 ≤ L.length ∧ L.length ≤ 1024 ∧ (kAt L 0).tag = 0 ∧ ∀ k, k < L.length → placeOk L k = true := by
  unfold poolOk at h
  simp at h
  exact ⟨h.1.1.1, h.1.1.2, h.1.2, h.2⟩
set_option maxRecDepth 100000 in
set_option maxHeartbeats 8000000 in
theorem Check_any (w : World) (a : Option Addr) (n cap : Nat) (L : List KV) (hs : Ks w a n L) (hn : n ≤ 65536) (hl : ∀ i : Nat, i < n → (kAt L i).s.length ≤ 65536) : Calls Try.prog 27 #[.slice a n cap] w (CheckRet L w) := by
  have hL := hs.1
  by_cases h0 : n = 0
  · subst h0
    have HR := Lib.hid (poolOk_len (L := L) (.inl hL))
    clear hs hl
    go_enter Try.func27, Try.ntmps27
    go_wp2_with fail
    go_ret
    exact ⟨by rw [HR.out]; rfl, Below.refl _ _⟩
  · by_cases hm : 1024 < n
    · have HR := Lib.hid (poolOk_len (L := L) (.inr (by omega)))
      have e0 : ((n : Int) == 0) = false := by simp; omega
      have e1 : decide ((1024 : Int) < n) = true := by simp; omega
      clear hs hl h0 hL
      go_enter Try.func27, Try.ntmps27
      go_wp2_with fail
      go_ret
      exact ⟨by rw [HR.out]; rfl, Below.refl _ _⟩
    · obtain ⟨b, off, rfl, hbl, hk⟩ := hs.at 0 (by omega)
      have p0 := hk.c0
      simp only [Nat.zero_mul, Nat.add_zero] at p0
      have e0 : ((n : Int) == 0) = false := by simp; omega
      have e1 : decide ((1024 : Int) < n) = false := by simp; omega
      have z0 : 0 < n := by omega
      by_cases ht : (kAt L 0).tag = 0
      · have p0' : w.cell? ⟨b, off, none⟩ = some (.int .i64 0) := by rw [p0]; rw [← ht]; rfl
        have HS := Lib.hid hs
        have HT := Lib.hid ht
        have HLn := Lib.hid hL
        have HL := Lib.hid hl
        clear hk p0 hs ht hl hL
        go_enter Try.func27, Try.ntmps27
        go_wp2_with fail
        clear p0'
        go_loopg [22] n (fun gn i wr => ∃ j : Nat, j ≤ n ∧ gn = n - j ∧ i = .int .i64 j ∧ Hid (∀ k, k < j → placeOk L k = true) ∧ Hid (Below w.heap.size w wr))
        case atStart => exact ⟨0, by omega, by omega, by go_num, Lib.hid (fun k h => by omega), Lib.hid (Below.refl _ _)⟩
        case round =>
          obtain ⟨j, hj, rfl, rfl, HP, HB⟩ := hrel
          by_cases hlt : j < n
          · obtain ⟨b', off', he, _, hk⟩ := (HS.out.below HB.out).at j hlt
            cases he
            obtain ⟨q0, q1, q2, q3, q4⟩ := hk
            have HCB := Lib.hid (fun w' => bare_any w' (kAt L j))
            have HCL := Lib.hid (fun w' (hw : Below w.heap.size w w') => leads_any w' (some ⟨b, off, none⟩) n cap L j (HS.out.below hw) hn hlt (HL.out j hlt))
            have HEQ := Lib.hid (fun w' o1 o2 => run_neqK w' (kAt L j) (bareV (kAt L j)) o1 o2)
            rw [sameK_bare] at HEQ
            have HPB := Lib.hid (poolOk_bad (L := L) j (by rw [HLn.out]; exact hlt))
            have HPO : Hid (placeOk L j = (bareOk (kAt L j) && leadOk L j)) := Lib.hid rfl
            generalize bareOk (kAt L j) = r1 at *
            generalize leadOk L j = r2 at *
            generalize hvb : kV (bareV (kAt L j)) = vb at *
            unfold kV at HCB HEQ
            clear hvb
            generalize (kAt L j).tag = ct at *
            generalize (kAt L j).a = ca at *
            generalize (kAt L j).b = cb at *
            generalize (kAt L j).n = cn at *
            generalize (kAt L j).s = cs at *
            have j1 : (j : Int) < n := by omega
            obtain ⟨W0, rfl⟩ : ∃ W0, W0 = wr := ⟨_, rfl⟩
            go_upto_region 6 with fail
            have l0 := fun (x : Value) (k : Nat) (h : (#[Value.int .i64 ct, .int .i64 ca, .int .i64 cb, .int .i64 cn, .string ⟨cs.toArray⟩])[k]? = some x) => (cell_of_row (W0.alloc (.cells #[Value.int .i64 ct, .int .i64 ca, .int .i64 cb, .int .i64 cn, .string ⟨cs.toArray⟩] 42)) W0.heap.size k _ _ _ (heap_alloc_last W0 _)).trans h
            have c0 := l0 _ 0 rfl
            have c1 := l0 _ 1 rfl
            have c2 := l0 _ 2 rfl
            have c3 := l0 _ 3 rfl
            have c4 := l0 _ 4 rfl
            have HB1 := Lib.hid (HB.out.alloc HB.out.size (.cells #[Value.int .i64 ct, .int .i64 ca, .int .i64 cb, .int .i64 cn, .string ⟨cs.toArray⟩] 42))
            clear l0 q0 q1 q2 q3 q4
            generalize W0.alloc (.cells #[Value.int .i64 ct, .int .i64 ca, .int .i64 cb, .int .i64 cn, .string ⟨cs.toArray⟩] 42) = W at *
            have d0 := fun w' (h : Below W.heap.size W w') => cellS_below h c0
            have d1 := fun w' (h : Below W.heap.size W w') => cellS_below h c1
            have d2 := fun w' (h : Below W.heap.size W w') => cellS_below h c2
            have d3 := fun w' (h : Below W.heap.size W w') => cellS_below h c3
            have d4 := fun w' (h : Below W.heap.size W w') => cellS_below h c4
            clear c0 c1 c2 c3 c4
            refine wp_region_lexS (Below W.heap.size W) (.stir [(0, true), (1, true), (2, false), (3, true), (4, true), (5, true), (6, true), (7, false), (8, true), (9, true)]) (by kernel_rfl) (by kernel_rfl) (fun c a d v w h => by cases d <;> exact h) ?_
            refine lexS_stir (Below W.heap.size W) (fun _ h => h) (Below.refl _ _).drew ?_
            cases r1
            · have HR := Lib.hid (HPB.out (by rw [HPO.out]; rfl))
              clear HPB HPO
              iterate 2
                refine stir_step (fun K hK => ?_)
                simp only [stirOp, List.getElem?_toArray, List.getElem?_cons_succ, List.getElem?_cons_zero]
                rw [if_pos (by rfl)]
                apply Exists.intro
                refine ⟨fun w' hS' => ?_, ?_⟩
                · first | (go_simp <;> with_reducible rfl) | (go_simp; go_bits; with_reducible rfl)
                go_simp
                try go_bits
                refine hK _ ?_
                clear hK K
              refine stir_step (fun K hK => ?_)
              simp only [stirOp, List.getElem?_toArray, List.getElem?_cons_succ, List.getElem?_cons_zero]
              rw [if_pos (by rfl)]
              apply Exists.intro
              refine ⟨fun w' hS' => ?_, ?_⟩
              · go_simp
                exact Stirs.call (Calls.mono ((HCB.out w')) fun e w'' h => ⟨h.1, (fun hb'' => hS'.trans (hb''.mono hS'.size)) h.2⟩)
              go_simp
              refine hK _ ?_
              clear hK K
              refine stir_step (fun K hK => ?_)
              simp only [stirOp, List.getElem?_toArray, List.getElem?_cons_succ, List.getElem?_cons_zero]
              rw [if_pos (by rfl)]
              refine ⟨Value.bool (!false), fun w' hS' => ?_, ?_⟩
              · exact run_exec_bin (by rfl) (HEQ.out w' _ _)
              go_simp
              refine hK _ ?_
              clear hK K
              iterate 1
                refine stir_step (fun K hK => ?_)
                simp only [stirOp, List.getElem?_toArray, List.getElem?_cons_succ, List.getElem?_cons_zero]
                rw [if_pos (by rfl)]
                apply Exists.intro
                refine ⟨fun w' hS' => ?_, ?_⟩
                · first | (go_simp <;> with_reducible rfl) | (go_simp; go_bits; with_reducible rfl)
                go_simp
                try go_bits
                refine hK _ ?_
                clear hK K
              iterate 4
                refine stir_step (fun K hK => ?_)
                simp only [stirOp, List.getElem?_toArray, List.getElem?_cons_succ, List.getElem?_cons_zero]
                rw [if_neg (Bool.eq_false_iff.1 (by rfl))]
                go_simp
                refine hK _ ?_
                clear hK K
              iterate 1
                refine stir_step (fun K hK => ?_)
                simp only [stirOp, List.getElem?_toArray, List.getElem?_cons_succ, List.getElem?_cons_zero]
                rw [if_pos (by rfl)]
                apply Exists.intro
                refine ⟨fun w' hS' => ?_, ?_⟩
                · first | (go_simp <;> with_reducible rfl) | (go_simp; go_bits; with_reducible rfl)
                go_simp
                try go_bits
                refine hK _ ?_
                clear hK K
              refine stir_nil (fun y hy => ?_)
              have HY := Lib.hid (HB1.out.trans (hy.mono HB1.out.size))
              clear hy d0 d1 d2 d3 d4 HCB HCL HEQ
              go_wp2_with fail
              go_ret
              exact ⟨by rw [HR.out]; rfl, HY.out⟩
            · iterate 2
                refine stir_step (fun K hK => ?_)
                simp only [stirOp, List.getElem?_toArray, List.getElem?_cons_succ, List.getElem?_cons_zero]
                rw [if_pos (by rfl)]
                apply Exists.intro
                refine ⟨fun w' hS' => ?_, ?_⟩
                · first | (go_simp <;> with_reducible rfl) | (go_simp; go_bits; with_reducible rfl)
                go_simp
                try go_bits
                refine hK _ ?_
                clear hK K
              refine stir_step (fun K hK => ?_)
              simp only [stirOp, List.getElem?_toArray, List.getElem?_cons_succ, List.getElem?_cons_zero]
              rw [if_pos (by rfl)]
              apply Exists.intro
              refine ⟨fun w' hS' => ?_, ?_⟩
              · go_simp
                exact Stirs.call (Calls.mono ((HCB.out w')) fun e w'' h => ⟨h.1, (fun hb'' => hS'.trans (hb''.mono hS'.size)) h.2⟩)
              go_simp
              refine hK _ ?_
              clear hK K
              refine stir_step (fun K hK => ?_)
              simp only [stirOp, List.getElem?_toArray, List.getElem?_cons_succ, List.getElem?_cons_zero]
              rw [if_pos (by rfl)]
              refine ⟨Value.bool (!true), fun w' hS' => ?_, ?_⟩
              · exact run_exec_bin (by rfl) (HEQ.out w' _ _)
              go_simp
              refine hK _ ?_
              clear hK K
              iterate 3
                refine stir_step (fun K hK => ?_)
                simp only [stirOp, List.getElem?_toArray, List.getElem?_cons_succ, List.getElem?_cons_zero]
                rw [if_pos (by rfl)]
                apply Exists.intro
                refine ⟨fun w' hS' => ?_, ?_⟩
                · first | (go_simp <;> with_reducible rfl) | (go_simp; go_bits; with_reducible rfl)
                go_simp
                try go_bits
                refine hK _ ?_
                clear hK K
              refine stir_step (fun K hK => ?_)
              simp only [stirOp, List.getElem?_toArray, List.getElem?_cons_succ, List.getElem?_cons_zero]
              rw [if_pos (by rfl)]
              apply Exists.intro
              refine ⟨fun w' hS' => ?_, ?_⟩
              · go_simp
                exact Stirs.call (Calls.mono ((HCL.out w' (HB1.out.trans (hS'.mono HB1.out.size)))) fun e w'' h => ⟨h.1, (fun hb'' => hS'.trans (hb''.mono hS'.size)) h.2⟩)
              go_simp
              refine hK _ ?_
              clear hK K
              cases r2
              · have HR := Lib.hid (HPB.out (by rw [HPO.out]; rfl))
                clear HPB HPO
                iterate 2
                  refine stir_step (fun K hK => ?_)
                  simp only [stirOp, List.getElem?_toArray, List.getElem?_cons_succ, List.getElem?_cons_zero]
                  rw [if_pos (by rfl)]
                  apply Exists.intro
                  refine ⟨fun w' hS' => ?_, ?_⟩
                  · first | (go_simp <;> with_reducible rfl) | (go_simp; go_bits; with_reducible rfl)
                  go_simp
                  try go_bits
                  refine hK _ ?_
                  clear hK K
                refine stir_nil (fun y hy => ?_)
                have HY := Lib.hid (HB1.out.trans (hy.mono HB1.out.size))
                clear hy d0 d1 d2 d3 d4 HCB HCL HEQ
                go_wp2_with fail
                go_ret
                exact ⟨by rw [HR.out]; rfl, HY.out⟩
              · have HQ := Lib.hid (show ∀ k, k < j + 1 → placeOk L k = true from fun k hk => by
                  rcases Nat.lt_or_ge k j with h | h
                  · exact HP.out k h
                  · obtain rfl : k = j := by omega
                    rw [HPO.out]; rfl)
                clear HPB HPO
                iterate 2
                  refine stir_step (fun K hK => ?_)
                  simp only [stirOp, List.getElem?_toArray, List.getElem?_cons_succ, List.getElem?_cons_zero]
                  rw [if_pos (by rfl)]
                  apply Exists.intro
                  refine ⟨fun w' hS' => ?_, ?_⟩
                  · first | (go_simp <;> with_reducible rfl) | (go_simp; go_bits; with_reducible rfl)
                  go_simp
                  try go_bits
                  refine hK _ ?_
                  clear hK K
                refine stir_nil (fun y hy => ?_)
                have HY := Lib.hid (HB1.out.trans (hy.mono HB1.out.size))
                clear hy d0 d1 d2 d3 d4 HCB HCL HEQ
                go_wp2_with fail
                go_roundg (n - (j + 1))
                case measure => omega
                case rel => exact ⟨j + 1, by omega, rfl, by go_num, HQ, HY⟩
          · obtain rfl : j = n := by omega
            have HR := Lib.hid (poolOk_good (L := L) (by rw [HLn.out]; omega) (by rw [HLn.out]; omega) HT.out (by rw [HLn.out]; exact HP.out))
            go_wp2_with fail
            go_ret
            exact ⟨by rw [HR.out]; rfl, HB.out⟩
      · have HR := Lib.hid (poolOk_tag (L := L) ht)
        generalize (kAt L 0).tag = t at *
        have e3 : (t != 0) = true := by simp [ht]
        clear hk ht hs hl
        go_enter Try.func27, Try.ntmps27
        go_wp2_with fail
        go_ret
        exact ⟨by rw [HR.out]; rfl, Below.refl _ _⟩
end Go.Proofs.Ytnfhiakdbakpgaa
/- append as a lone step of a region that draws. No condition. -/
namespace Go.Proofs.Ytnfhiakdbakpgaa
open Go.ChangeShapes Go.WideShapes Go.ChangeAt Go.RowKit
theorem wp_appK {t e : TypeId} {z : Value} {bytes : Nat} (hO : OneE t e z bytes) {w : World} {ops : Array Oper} {o : Oper} {a : Act} {K : Act → World → Prop} {Q : Exit → Act → World → Prop} (hgd : Region.wanted o (yielded ops a.tmps) = true) (s x : Operand) (tx : TypeId)
    (ho : o.op = .call { callee := .builtin .append, args := #[s, x], argTypes := #[t, tx] })
    (base : Nat) (v : Value) (n : Nat) (xs : List Value) (hv : a.eval s = v) (hown : w.ownsRow base e 1 v n xs)
    (y : Value) (m : Nat) (news : List Value) (hy : a.eval x = y) (hs : Src Try.prog 1 tx y m news w) (hlen : (n + m) * bytes ≤ 140737488355328) (hm : n + m ≤ maxLen) (hbase : base ≤ w.heap.size)
    (h : ∀ v' w', w'.ownsRow base e 1 v' (n + m) (xs ++ news) → w.grownBy w' v.ownBlock → Below base w w' → K (a.put o.dst v') w') : Oper.wp Try.prog o a w K Q := by
  have h1 := step_app1 (E := True) (ops := ops) (Q := Q) hO hgd s x tx ho base v n xs hv hown y m news hy hs hlen hm hbase h
  rwa [if_pos hgd] at h1
theorem strSrcK (w : World) (bs : List UInt8) : Src Try.prog 1 9 (.string ⟨bs.toArray⟩) bs.length (bs.map encB) w := by
  have h := Src.ofString (P := Try.prog) w Try.underlying9 ⟨bs.toArray⟩
  have e : byteCells ⟨bs.toArray⟩ = bs.map encB := by unfold byteCells; rfl
  rw [e] at h
  exact h
end Go.Proofs.Ytnfhiakdbakpgaa
