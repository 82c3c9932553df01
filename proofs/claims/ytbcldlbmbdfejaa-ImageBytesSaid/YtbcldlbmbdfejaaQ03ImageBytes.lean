/- A region that draws its order and ends in one operation that waits for all the others (a store into a cell that the region reads): walked once, in an order of the prover's choosing; behind the last nothing has to hold. Over any program. -/
import Derived.Test.YtbcldlbmbdfejaaQ01ImageBytes
import Derived.StillTail
import Derived.Test.YtbcldlbmbdfejaaQ00ImageBytes
import Derived.Test.YtbcldlbmbdfejaaQ02ImageBytes
import Derived.MapKept
import Derived.Carry
namespace Go.Proofs.Ytbcldlbmbdfejaa
open Go.RowKit
section
variable {P : Program} {ops : Array Oper} {Q : Exit → Act → World → Prop} {md : Region.Mode} {S : World → Prop}
/-- Whatever order is picked; S holds behind each but the last. -/
def wpAnyE (P : Program) (md : Region.Mode) (ops : Array Oper) (Q : Exit → Act → World → Prop) (S : World → Prop) (n : Nat) : Nat → Array Bool → Act → World → Prop
  | 0, listed, a, w => Region.ready md ops listed = [] ∧ Q .normal a w
  | fuel + 1, listed, a, w => (Region.ready md ops listed = [] → Q .normal a w) ∧
    ∀ i ∈ Region.ready md ops listed, wpOp P ops Q i (fun a' w' => (i ≠ n → S w') ∧ wpAnyE P md ops Q S n fuel (listed.setIfInBounds i true) a' w') a w
theorem wpAny_of_E {n : Nat} : ∀ (fuel : Nat) (listed : Array Bool) (a : Act) (w : World), wpAnyE P md ops Q S n fuel listed a w → wpAny P md ops Q fuel listed a w
  | 0, _, _, _, h => h
  | fuel + 1, _, _, _, h => ⟨h.1, fun i hi => wpOp_mono (fun a' w' h' => wpAny_of_E fuel _ a' w' h'.2) (h.2 i hi)⟩
theorem wpAnyE_first {n i : Nat} {oi : Oper} {v : Value} (hsk : Region.sinkB md ops n = true) (hch : Region.chainB md ops n = true) (hn : ops.size = n + 1) (hin : i < n)
    (hi : ops[i]? = some oi) (hsel : ∀ (j : Nat) (o : Oper) cs b, ops[j]? = some o → o.op ≠ .select cs b)
    (hQ : ∀ c a w, Q (.panic c) (a.put oi.dst v) w → Q (.panic c) a w) :
    ∀ (fuel : Nat) (listed : Array Bool) (a : Act) (w : World), HeadInv md ops n listed →
      (∀ j oj, ops[j]? = some oj → j ≠ i → listed.getD j true = false → (∀ e ∈ oj.after, Region.binds md e = true → e.on ≠ i) → oi.apart ops oj = true) →
      i ∈ Region.ready md ops listed → YieldsIf P ops S oi v a → S w →
      wpAnyE P md ops Q S n fuel (listed.setIfInBounds i true) (a.put oi.dst v) w → wpAnyE P md ops Q S n (fuel + 1) listed a w := by
  intro fuel
  induction fuel with
  | zero =>
    intro listed a w _ _ hr hy hS H
    refine ⟨fun h => (by rw [h] at hr; cases hr), fun j hj => ?_⟩
    by_cases hji : j = i
    · subst hji; exact hy.wpOp hi hS ⟨fun _ => hS, H⟩
    · have := ready_mono hj hji
      rw [H.1] at this
      cases this
  | succ fuel ih =>
    intro listed a w inv hfree hr hy hS H
    refine ⟨fun h => (by rw [h] at hr; cases hr), fun j hj => ?_⟩
    by_cases hji : j = i
    · subst hji; exact hy.wpOp hi hS ⟨fun _ => hS, H⟩
    · have h1 := H.2 j (ready_mono hj hji)
      obtain ⟨hjun, oj, hoj, hall⟩ := mem_ready.1 hj
      have hnot : ∀ e ∈ oj.after, Region.binds md e = true → e.on ≠ i := fun e he hb heq => by
        have h1 := hall e he hb
        have h0 := (mem_ready.1 hr).1
        rw [heq, getD_both h0] at h1
        cases h1
      have hjs : j < ops.size := (Array.getElem?_eq_some_iff.1 hoj).1
      have hjn : j ≠ n := fun e => tail_waits hsk hch (by omega) inv (n - i) i rfl hin (mem_ready.1 hr).1 j (by omega) hj
      have h2 := wpOp_putIf hoj (hfree j oj hoj hji hjun hnot) (fun cs b => hsel i oi cs b hi) (fun cs b => hsel j oj cs b hoj) hQ hy h1
      have hfree' : ∀ k ok, ops[k]? = some ok → k ≠ i → (listed.setIfInBounds j true).getD k true = false →
          (∀ e ∈ ok.after, Region.binds md e = true → e.on ≠ i) → oi.apart ops ok = true := fun k ok hk hki hun hno => by
        refine hfree k ok hk hki ?_ hno
        by_cases hjk : j = k
        · subst hjk; exact hjun
        · rw [getD_set_ne true hjk] at hun; exact hun
      refine wpOp_mono (fun a' w' h3 => ⟨fun _ => h3.2.1 hjn, ih (listed.setIfInBounds j true) a' w' (inv.set hj (by omega)) hfree' (ready_mono hr (Ne.symm hji)) h3.1 (h3.2.1 hjn) ?_⟩) h2
      rw [Array.setIfInBounds_comm _ _ hji]
      exact h3.2.2
/-- The last operation. -/
def lastOp (P : Program) (ops : Array Oper) (Q : Exit → Act → World → Prop) (n : Nat) (a : Act) (w : World) : Prop :=
  match ops[n]? with
  | none => False
  | some o => if Region.wanted o (yielded ops a.tmps) = true then o.wp P a w (fun a' w' => Q .normal a' w') Q else Q .normal (a.put o.dst undef) w
def wpLexE (P : Program) (ops : Array Oper) (Q : Exit → Act → World → Prop) (S : World → Prop) (n : Nat) : List (Nat × Bool) → Act → World → Prop
  | [], a, w => lastOp P ops Q n a w
  | (i, b) :: l, a, w => lexOp P ops Q S i b (wpLexE P ops Q S n l) a w
def checkLexE (ops : Array Oper) (n : Nat) : Array Bool → List (Nat × Bool) → Bool
  | listed, [] => Region.ready .any ops listed == [n] && (Region.ready .any ops (listed.setIfInBounds n true)).isEmpty
  | listed, (i, b) :: l => decide (i < n) && (if b then Region.free .any ops listed i && (Region.ready .any ops listed).contains i else Region.ready .any ops listed == [i]) && checkLexE ops n (listed.setIfInBounds i true) l
theorem lexE_sound {n : Nat} (hs : Region.noSelect ops = true) (hQ : ∀ c a d v w, Q (.panic c) (a.put d v) w → Q (.panic c) a w) (hsk : Region.sinkB .any ops n = true) (hch : Region.chainB .any ops n = true) (hn : ops.size = n + 1) :
    ∀ (l : List (Nat × Bool)) (listed : Array Bool) (a : Act) (w : World), HeadInv .any ops n listed → checkLexE ops n listed l = true → wpLexE P ops Q S n l a w → wpAnyE P .any ops Q S n (l.length + 1) listed a w := by
  intro l
  induction l with
  | nil =>
    intro listed a w inv hc h
    simp only [checkLexE, Bool.and_eq_true, beq_iff_eq] at hc
    refine ⟨fun h0 => (by rw [hc.1] at h0; cases h0), fun j hj => ?_⟩
    rw [hc.1] at hj
    obtain rfl : j = n := by simpa using hj
    change lastOp P ops Q j a w at h
    unfold lastOp at h
    unfold wpOp
    cases ho : ops[j]? with
    | none => rw [ho] at h; exact h.elim
    | some o =>
      rw [ho] at h
      simp only at h ⊢
      by_cases hw : Region.wanted o (yielded ops a.tmps) = true
      · rw [if_pos hw] at h
        simp only [hw, if_true]
        exact .inl (Oper.wp_mono (fun a' w' h' => ⟨fun hne => absurd rfl hne, by simpa using hc.2, h'⟩) h)
      · rw [if_neg hw] at h
        simp only [hw]
        exact ⟨fun hne => absurd rfl hne, by simpa using hc.2, h⟩
  | cons p l ih =>
    obtain ⟨i, b⟩ := p
    intro listed a w inv hc h
    simp only [checkLexE, Bool.and_eq_true, decide_eq_true_eq] at hc
    obtain ⟨⟨hin, hc1⟩, hc2⟩ := hc
    change lexOp P ops Q S i b (wpLexE P ops Q S n l) a w at h
    unfold lexOp at h
    cases ho : ops[i]? with
    | none => rw [ho] at h; exact h.elim
    | some o =>
      rw [ho] at h
      simp only at h
      cases b with
      | true =>
        simp only [if_true, Bool.and_eq_true] at hc1
        obtain ⟨hf, hr⟩ := hc1
        have hr' : i ∈ Region.ready .any ops listed := by simpa using hr
        by_cases hw : Region.wanted o (yielded ops a.tmps) = true
        · rw [if_pos hw] at h
          obtain ⟨v, h1, h2, h3⟩ := h
          exact wpAnyE_first hsk hch hn hin ho (Region.noSelect_spec hs) (fun c a w => hQ c a _ _ w) _ listed a w inv (Region.free_spec ho hf) hr' (.inl ⟨hw, h1⟩) h2 (ih _ _ _ (inv.set hr' hin) hc2 h3)
        · rw [if_neg hw] at h
          exact wpAnyE_first hsk hch hn hin ho (Region.noSelect_spec hs) (fun c a w => hQ c a _ _ w) _ listed a w inv (Region.free_spec ho hf) hr' (.inr ⟨by simpa using hw, rfl⟩) h.1 (ih _ _ _ (inv.set hr' hin) hc2 h.2)
      | false =>
        simp only [Bool.false_eq_true, if_false, beq_iff_eq] at hc1
        refine ⟨fun h0 => (by rw [hc1] at h0; cases h0), fun j hj => ?_⟩
        have hj0 := hj
        rw [hc1] at hj
        obtain rfl : j = i := by simpa using hj
        unfold wpOp
        rw [ho]
        simp only
        by_cases hw : Region.wanted o (yielded ops a.tmps) = true
        · rw [if_pos hw] at h
          simp only [hw, if_true]
          exact .inl (Oper.wp_mono (fun a' w' h' => ⟨fun _ => h'.1, ih _ _ _ (inv.set hj0 hin) hc2 h'.2⟩) h)
        · rw [if_neg hw] at h
          simp only [hw]
          exact ⟨fun _ => h.1, ih _ _ _ (inv.set hj0 hin) hc2 h.2⟩
theorem wp_region_lexE {id : Nat} {a : Act} {w : World} (S : World → Prop) (n : Nat) (l : List (Nat × Bool)) (hm : P.follows .mixedOrders = true)
    (hc : (Region.noSelect ops && (ops.size == n + 1) && (l.length == n) && Region.sinkB .any ops n && Region.chainB .any ops n && checkLexE ops n (Array.replicate ops.size false) l) = true) (hQ : ∀ c a d v w, Q (.panic c) (a.put d v) w → Q (.panic c) a w)
    (h : wpLexE P ops Q S n l a w.drew) : (Code.region id ops true).wp P Q a w := by
  simp only [Bool.and_eq_true, beq_iff_eq] at hc
  obtain ⟨⟨⟨⟨⟨hs, hl⟩, hl2⟩, hsk⟩, hch⟩, hk⟩ := hc
  have inv0 : HeadInv .any ops n (Array.replicate ops.size false) :=
    ⟨by simp, fun j oj _ hl => (by rw [getD_replicate_false] at hl; cases hl), fun t _ ht => getD_in (by simpa using ht) (getD_replicate_false _ _)⟩
  have := lexE_sound (P := P) (Q := Q) (S := S) hs hQ hsk hch hl l _ a _ inv0 hk h
  rw [hl2, ← hl] at this
  exact wp_region_any hm (wpAny_of_E _ _ _ _ this)
theorem lexE_step {n i : Nat} {b : Bool} {l : List (Nat × Bool)} {a : Act} {w : World}
    (h : ∀ K : Act → World → Prop, (∀ a w, wpLexE P ops Q S n l a w → K a w) → lexOp P ops Q S i b K a w) : wpLexE P ops Q S n ((i, b) :: l) a w := h _ (fun _ _ h => h)
theorem lexE_last {n : Nat} {a : Act} {w : World} (h : lastOp P ops Q n a w) : wpLexE P ops Q S n [] a w := h
end
end Go.Proofs.Ytbcldlbmbdfejaa
/- Blocks of three cells. Over any program. -/
namespace Go.Proofs.Ytbcldlbmbdfejaa
open Go.ChangeShapes Go.WideShapes Go.ChangeAt Go.RowKit
structure Box3 (w w1 : World) (g : Nat) (x y z : Value) : Prop where
  c0 : w1.cell? ⟨g, 0, none⟩ = some x
  c1 : w1.cell? ⟨g, 1, none⟩ = some y
  c2 : w1.cell? ⟨g, 2, none⟩ = some z
  f0 : w1.frozen? ⟨g, 0, none⟩ = false
  f1 : w1.frozen? ⟨g, 1, none⟩ = false
  f2 : w1.frozen? ⟨g, 2, none⟩ = false
  lt : g < w1.heap.size
theorem Box3.of {w w1 : World} {g : Nat} {x y z : Value} {t : TypeId} (h : w.heap[g]? = some (.cells #[x, y, z] t)) (hb : Below w.heap.size w w1) : Box3 w w1 g x y z := by
  have hlt : g < w.heap.size := (Array.getElem?_eq_some_iff.1 h).1
  have hg : w1.heap[g]? = some (.cells #[x, y, z] t) := by rw [hb.block _ hlt]; exact h
  refine ⟨?_, ?_, ?_, ?_, ?_, ?_, (Array.getElem?_eq_some_iff.1 hg).1⟩
  · rw [cell_of_row w1 _ 0 _ _ _ hg]; rfl
  · rw [cell_of_row w1 _ 1 _ _ _ hg]; rfl
  · rw [cell_of_row w1 _ 2 _ _ _ hg]; rfl
  all_goals (unfold World.frozen?; rw [hg]; rfl)
theorem heap_set3 {w : World} {g : Nat} {cs : Array Value} {t : TypeId} {fr : Nat × Nat} (h : w.heap[g]? = some (.cells cs t fr)) (o : Nat) (v : Value) : (w.setCell ⟨g, o, none⟩ v).heap[g]? = some (.cells (cs.setIfInBounds o v) t fr) := by
  unfold World.setCell
  simp [Array.getElem?_modify, h]
/-- A block of three cells behind which the walk goes. -/
def Blk3 (w : World) (g : Nat) (x y z : Value) (t : TypeId) : Prop := w.heap[g]? = some (.cells #[x, y, z] t)
theorem Blk3.below {w w1 : World} {g : Nat} {x y z : Value} {t : TypeId} (h : Blk3 w g x y z t) (hb : Below w.heap.size w w1) : Blk3 w1 g x y z t := by
  unfold Blk3
  rw [hb.block _ (Array.getElem?_eq_some_iff.1 h).1]; exact h
theorem Blk3.box {w : World} {g : Nat} {x y z : Value} {t : TypeId} (h : Blk3 w g x y z t) : Box3 w w g x y z := Box3.of h (Below.refl _ _)
theorem Blk3.set {w : World} {g : Nat} {x y z x' y' z' : Value} {t : TypeId} (h : Blk3 w g x y z t) : Blk3 (((w.setCell ⟨g, 0, none⟩ x').setCell ⟨g, 1, none⟩ y').setCell ⟨g, 2, none⟩ z') g x' y' z' t :=
  heap_set3 (heap_set3 (heap_set3 h 0 x') 1 y') 2 z'
theorem keep33 (g : Nat) (w : World) (x y z : Value) : Below g w (((w.setCell ⟨g, 0, none⟩ x).setCell ⟨g, 1, none⟩ y).setCell ⟨g, 2, none⟩ z) :=
  (((Below.refl g w).setCell (p := ⟨g, 0, none⟩) (Nat.le_refl g) x).setCell (p := ⟨g, 1, none⟩) (Nat.le_refl g) y).setCell (p := ⟨g, 2, none⟩) (Nat.le_refl g) z
theorem Blk3.other {w : World} {g h o : Nat} {x y z v : Value} {t : TypeId} (k : Blk3 w g x y z t) (hne : g ≠ h) : Blk3 (w.setCell ⟨h, o, none⟩ v) g x y z t := by
  unfold Blk3 World.setCell
  have hne' : ¬ h = g := fun e => hne e.symm
  simp [Array.getElem?_modify, hne']
  exact k
theorem Blk3.belowB {w w1 : World} {B g : Nat} {x y z : Value} {t : TypeId} (h : Blk3 w g x y z t) (hb : Below B w w1) (hlt : g < B) : Blk3 w1 g x y z t := by
  unfold Blk3
  rw [hb.block _ hlt]; exact h
end Go.Proofs.Ytbcldlbmbdfejaa
/- image: the widths, the program's and the reference's. No condition. -/
namespace Go.Proofs.Ytbcldlbmbdfejaa
open Go.ChangeShapes Go.WideShapes Go.ChangeAt Go.RowKit
/-- Widths as a value. -/
def WV (q : Nat × Nat × Nat × Bool) : Value := .agg #[.int .i64 (q.1 : Nat), .int .i64 (q.2.1 : Nat), .int .i64 (q.2.2.1 : Nat)]
/-- A form's widths. -/
def formW (f : Nat) : Nat × Nat × Nat × Bool :=
  if f = 2 then (1, 0, 0, true) else if f = 9 then (1, 0, 0, true) else if f = 3 then (0, 0, 1, true) else if f = 4 then (0, 0, 2, true) else if f = 7 then (2, 0, 0, true) else if f = 6 then (2, 0, 0, true) else if f = 8 then (1, 0, 1, true) else (0, 0, 0, decide (0 < f))
/-- An operation's widths: of A, B and N. -/
def imgW (k : Nat) : Nat × Nat × Nat × Bool :=
  if k = 18 then (0, 0, 4, true) else if k = 20 then (0, 0, 8, true) else if k = 240 then (2, 0, 0, true) else if k = 182 ∨ k = 178 ∨ k = 179 ∨ k = 180 ∨ k = 181 then (2, 1, 0, true) else formW (formN k)
/-- The reference's. -/
def refW (k : Nat) : Nat × Nat × Nat × Bool :=
  if k = 18 then (0, 0, 4, true) else if k = 20 then (0, 0, 8, true) else if k = 240 then (2, 0, 0, true) else if k = 182 ∨ k = 178 ∨ k = 179 ∨ k = 180 ∨ k = 181 then (2, 1, 0, true) else if formN k = 5 then (0, 0, 0, false) else formW (formN k)
theorem refW_eq : ∀ k : Fin 256, refW k.val = imgW k.val := by decide +kernel
/-- A map's block. -/
def setM (w : World) (g : Nat) (es : Array MapEntry) (c : Nat) : World := { w with heap := w.heap.setIfInBounds g (.map es c) }
def MB (w : World) (g : Nat) (es : Array MapEntry) (c : Nat) : Prop := w.heap[g]? = some (.map es c)
theorem MB.set {w : World} {g : Nat} {es es' : Array MapEntry} {c c' : Nat} (h : MB w g es c) : MB (setM w g es' c') g es' c' := by
  unfold MB setM at *
  have hl := (Array.getElem?_eq_some_iff.1 h).1
  simp [hl]
theorem below_setM {B : Nat} {w0 w : World} {g : Nat} {es : Array MapEntry} {c : Nat} (h : Below B w0 w) (hg : B ≤ g) : Below B w0 (setM w g es c) :=
  ⟨h.os, h.tape, h.output, by unfold setM; simpa using h.size, fun k hk => by
    unfold setM
    rw [← h.block k hk]
    simp only [Array.getElem?_setIfInBounds]
    rw [if_neg (by omega)]⟩
/-- m[k] = v, where k is new. -/
theorem run_put {w : World} {g : Nat} {es : Array MapEntry} {c : Nat} (h : MB w g es c) (k : Int) (v : Value) (hn : Instr.findNow (.int .i64) (.int .i64 k) es.toList 0 = some none) :
    (Instr.mapUpdate 129 (.map (some g)) (.int .i64 k) v).run Try.prog w = .ok () (setM w g (es.push ⟨.int .i64 k, v, c⟩) (c + 1)) := by
  have hk : Go.MapKept.IsKey (.int .i64) (.int .i64 k) := by first | trivial | rfl
  unfold MB at h
  simp [Instr.mapUpdate, run_underlying Try.underlying129, Go.MapKept.run_getObj_map h, Go.MapKept.run_checkKey Try.underlying3 hk, Go.MapKept.run_findKey Try.underlying3 hn, Go.MapKept.run_setObj_map _ h, Result.andThen, setM]
/-- The map's entries. -/
def ents : Array MapEntry := #[⟨.int .i64 2, WV (1, 0, 0, true), 0⟩, ⟨.int .i64 9, WV (1, 0, 0, true), 1⟩, ⟨.int .i64 3, WV (0, 0, 1, true), 2⟩, ⟨.int .i64 4, WV (0, 0, 2, true), 3⟩, ⟨.int .i64 7, WV (2, 0, 0, true), 4⟩, ⟨.int .i64 6, WV (2, 0, 0, true), 5⟩, ⟨.int .i64 8, WV (1, 0, 1, true), 6⟩]
theorem zero_width (w : World) : (zeroValue 98).run Try.prog w = .ok (WV (0, 0, 0, true)) w := by kernel_rfl
theorem run_look {w : World} {g : Nat} {c : Nat} (h : MB w g ents c) (f : Nat) (hf : f ≤ 9) : (Instr.lookup 129 (.map (some g)) (.int .i64 f) false).run Try.prog w = .ok (WV (formW f)) w := by
  have hk : Go.MapKept.IsKey (.int .i64) (.int .i64 (f : Int)) := by first | trivial | rfl
  unfold MB at h
  have hfs : f = 0 ∨ f = 1 ∨ f = 2 ∨ f = 3 ∨ f = 4 ∨ f = 5 ∨ f = 6 ∨ f = 7 ∨ f = 8 ∨ f = 9 := by omega
  have hn : Instr.findNow (.int .i64) (.int .i64 f) ents.toList 0 = some (if f = 2 then some (0, WV (1, 0, 0, true)) else if f = 9 then some (1, WV (1, 0, 0, true)) else if f = 3 then some (2, WV (0, 0, 1, true)) else if f = 4 then some (3, WV (0, 0, 2, true)) else if f = 7 then some (4, WV (2, 0, 0, true)) else if f = 6 then some (5, WV (2, 0, 0, true)) else if f = 8 then some (6, WV (1, 0, 1, true)) else none) := by
    rcases hfs with rfl | rfl | rfl | rfl | rfl | rfl | rfl | rfl | rfl | rfl <;> rfl
  have hz := zero_width w
  have h1 := Go.MapKept.run_checkKey (w := w) Try.underlying3 hk ents.isEmpty 9999
  have h2 := Go.MapKept.run_findKey (w := w) Try.underlying3 hn
  simp only [Instr.lookup, Sem.run_bind, run_underlying Try.underlying129, Go.MapKept.run_getObj_map h, Result.andThen_ok, Sem.run_pure, h1, h2]
  clear h1 h2 hn hk
  rcases hfs with rfl | rfl | rfl | rfl | rfl | rfl | rfl | rfl | rfl | rfl <;>
    first | (simp [Result.andThen, hz, formW]; done) | (simp [Result.andThen, hz, formW]; rfl)
/-- A default operation. -/
def plainOp (k : Nat) : Prop := k ≠ 18 ∧ k ≠ 20 ∧ k ≠ 240 ∧ k ≠ 182 ∧ k ≠ 178 ∧ k ≠ 179 ∧ k ≠ 180 ∧ k ≠ 181
theorem imgW_plain {k : Nat} (h : plainOp k) : imgW k = formW (formN k) := by
  obtain ⟨h1, h2, h3, h4, h5, h6, h7, h8⟩ := h
  unfold imgW
  rw [if_neg h1, if_neg h2, if_neg h3, if_neg (by omega)]
theorem info3 : (Try.prog.info? 98).map (·.size) = some 3 := by kernel_rfl
theorem formW_ok (f : Nat) : (formW f).2.2.2 = decide (0 < f) := by
  unfold formW
  repeat' split
  all_goals first | rfl | (subst_vars; rfl)
set_option maxHeartbeats 4000000 in
set_option maxRecDepth 100000 in
theorem widths_plain (w : World) (k : Nat) (hk : k < 256) (hp : plainOp k) : Calls Try.prog 42 #[.int .u8 (k : Nat)] w fun e w' => e = .returned (.tuple #[WV (imgW k), .bool (imgW k).2.2.2]) ∧ Below w.heap.size w w' := by
  rw [imgW_plain hp, formW_ok]
  have hf9 := formN_le k
  obtain ⟨f, hf⟩ : ∃ f, f = formN k := ⟨_, rfl⟩
  have HF := Lib.hid (fun w' => Form_any w' k hk)
  rw [← hf] at HF hf9 ⊢
  obtain ⟨h1, h2, h3, h4, h5, h6, h7, h8⟩ := hp
  have b0 : ((k : Int) == 18) = false := beq_eq_false_iff_ne.2 (by omega)
  have b1 : ((k : Int) == 20) = false := beq_eq_false_iff_ne.2 (by omega)
  have b2 : ((k : Int) == 240) = false := beq_eq_false_iff_ne.2 (by omega)
  have b3 : ((k : Int) == 182) = false := beq_eq_false_iff_ne.2 (by omega)
  have b4 : ((k : Int) == 178) = false := beq_eq_false_iff_ne.2 (by omega)
  have b5 : ((k : Int) == 179) = false := beq_eq_false_iff_ne.2 (by omega)
  have b6 : ((k : Int) == 180) = false := beq_eq_false_iff_ne.2 (by omega)
  have b7 : ((k : Int) == 181) = false := beq_eq_false_iff_ne.2 (by omega)
  clear hf h1 h2 h3 h4 h5 h6 h7 h8
  obtain ⟨A, hA⟩ : ∃ A, A = (formW f).1 := ⟨_, rfl⟩
  obtain ⟨Bq, hBq⟩ : ∃ A, A = (formW f).2.1 := ⟨_, rfl⟩
  obtain ⟨Nq, hNq⟩ : ∃ A, A = (formW f).2.2.1 := ⟨_, rfl⟩
  have hWV : WV (formW f) = .agg #[.int .i64 (A : Nat), .int .i64 (Bq : Nat), .int .i64 (Nq : Nat)] := by rw [hA, hBq, hNq]; rfl
  rw [hWV]
  have HWV := Lib.hid hWV
  clear hA hBq hNq hWV
  go_enter Try.func42, Try.ntmps42
  go_wp2_with fail
  have hal : Below w.heap.size w (w.alloc (.cells #[.int .i64 0, .int .i64 0, .int .i64 0] 98)) := (Below.refl _ _).alloc (Nat.le_refl _) _
  have HB0 := Lib.hid hal
  have HK0 := Lib.hid (heap_alloc_last w (.cells #[.int .i64 0, .int .i64 0, .int .i64 0] 98))
  clear hal
  generalize w.alloc (.cells #[.int .i64 0, .int .i64 0, .int .i64 0] 98) = w1 at *
  refine (HF.out w1).mono ?_
  rintro e w2 ⟨rfl, hb2⟩
  have HB2 := Lib.hid (HB0.out.trans (hb2.mono HB0.out.size))
  have hgw : w.heap.size ≤ w2.heap.size := HB2.out.size
  have hmk := run_makeMap (P := Try.prog) 129 w2
  have m0 : MB (w2.alloc (.map #[] 0)) w2.heap.size #[] 0 := heap_alloc_last w2 _
  have q0 : Below w2.heap.size w2 (w2.alloc (.map #[] 0)) := (Below.refl _ _).alloc (Nat.le_refl _) _
  obtain ⟨M1, p1, m1, q1⟩ : ∃ M, (Instr.mapUpdate 129 (.map (some w2.heap.size)) (.int .i64 2) (.agg #[.int .i64 1, .int .i64 0, .int .i64 0])).run Try.prog (w2.alloc (.map #[] 0)) = .ok () M ∧ MB M w2.heap.size #[⟨.int .i64 2, .agg #[.int .i64 1, .int .i64 0, .int .i64 0], 0⟩] 1 ∧ Below w2.heap.size w2 M := ⟨_, run_put m0 2 _ rfl, m0.set, below_setM q0 (Nat.le_refl _)⟩
  obtain ⟨M2, p2, m2, q2⟩ : ∃ M, (Instr.mapUpdate 129 (.map (some w2.heap.size)) (.int .i64 9) (.agg #[.int .i64 1, .int .i64 0, .int .i64 0])).run Try.prog M1 = .ok () M ∧ MB M w2.heap.size #[⟨.int .i64 2, .agg #[.int .i64 1, .int .i64 0, .int .i64 0], 0⟩, ⟨.int .i64 9, .agg #[.int .i64 1, .int .i64 0, .int .i64 0], 1⟩] 2 ∧ Below w2.heap.size w2 M := ⟨_, run_put m1 9 _ rfl, m1.set, below_setM q1 (Nat.le_refl _)⟩
  clear m1 q1
  obtain ⟨M3, p3, m3, q3⟩ : ∃ M, (Instr.mapUpdate 129 (.map (some w2.heap.size)) (.int .i64 3) (.agg #[.int .i64 0, .int .i64 0, .int .i64 1])).run Try.prog M2 = .ok () M ∧ MB M w2.heap.size #[⟨.int .i64 2, .agg #[.int .i64 1, .int .i64 0, .int .i64 0], 0⟩, ⟨.int .i64 9, .agg #[.int .i64 1, .int .i64 0, .int .i64 0], 1⟩, ⟨.int .i64 3, .agg #[.int .i64 0, .int .i64 0, .int .i64 1], 2⟩] 3 ∧ Below w2.heap.size w2 M := ⟨_, run_put m2 3 _ rfl, m2.set, below_setM q2 (Nat.le_refl _)⟩
  clear m2 q2
  obtain ⟨M4, p4, m4, q4⟩ : ∃ M, (Instr.mapUpdate 129 (.map (some w2.heap.size)) (.int .i64 4) (.agg #[.int .i64 0, .int .i64 0, .int .i64 2])).run Try.prog M3 = .ok () M ∧ MB M w2.heap.size #[⟨.int .i64 2, .agg #[.int .i64 1, .int .i64 0, .int .i64 0], 0⟩, ⟨.int .i64 9, .agg #[.int .i64 1, .int .i64 0, .int .i64 0], 1⟩, ⟨.int .i64 3, .agg #[.int .i64 0, .int .i64 0, .int .i64 1], 2⟩, ⟨.int .i64 4, .agg #[.int .i64 0, .int .i64 0, .int .i64 2], 3⟩] 4 ∧ Below w2.heap.size w2 M := ⟨_, run_put m3 4 _ rfl, m3.set, below_setM q3 (Nat.le_refl _)⟩
  clear m3 q3
  obtain ⟨M5, p5, m5, q5⟩ : ∃ M, (Instr.mapUpdate 129 (.map (some w2.heap.size)) (.int .i64 7) (.agg #[.int .i64 2, .int .i64 0, .int .i64 0])).run Try.prog M4 = .ok () M ∧ MB M w2.heap.size #[⟨.int .i64 2, .agg #[.int .i64 1, .int .i64 0, .int .i64 0], 0⟩, ⟨.int .i64 9, .agg #[.int .i64 1, .int .i64 0, .int .i64 0], 1⟩, ⟨.int .i64 3, .agg #[.int .i64 0, .int .i64 0, .int .i64 1], 2⟩, ⟨.int .i64 4, .agg #[.int .i64 0, .int .i64 0, .int .i64 2], 3⟩, ⟨.int .i64 7, .agg #[.int .i64 2, .int .i64 0, .int .i64 0], 4⟩] 5 ∧ Below w2.heap.size w2 M := ⟨_, run_put m4 7 _ rfl, m4.set, below_setM q4 (Nat.le_refl _)⟩
  clear m4 q4
  obtain ⟨M6, p6, m6, q6⟩ : ∃ M, (Instr.mapUpdate 129 (.map (some w2.heap.size)) (.int .i64 6) (.agg #[.int .i64 2, .int .i64 0, .int .i64 0])).run Try.prog M5 = .ok () M ∧ MB M w2.heap.size #[⟨.int .i64 2, .agg #[.int .i64 1, .int .i64 0, .int .i64 0], 0⟩, ⟨.int .i64 9, .agg #[.int .i64 1, .int .i64 0, .int .i64 0], 1⟩, ⟨.int .i64 3, .agg #[.int .i64 0, .int .i64 0, .int .i64 1], 2⟩, ⟨.int .i64 4, .agg #[.int .i64 0, .int .i64 0, .int .i64 2], 3⟩, ⟨.int .i64 7, .agg #[.int .i64 2, .int .i64 0, .int .i64 0], 4⟩, ⟨.int .i64 6, .agg #[.int .i64 2, .int .i64 0, .int .i64 0], 5⟩] 6 ∧ Below w2.heap.size w2 M := ⟨_, run_put m5 6 _ rfl, m5.set, below_setM q5 (Nat.le_refl _)⟩
  clear m5 q5
  obtain ⟨M7, p7, m7, q7⟩ : ∃ M, (Instr.mapUpdate 129 (.map (some w2.heap.size)) (.int .i64 8) (.agg #[.int .i64 1, .int .i64 0, .int .i64 1])).run Try.prog M6 = .ok () M ∧ MB M w2.heap.size ents 7 ∧ Below w2.heap.size w2 M := ⟨_, run_put m6 8 _ rfl, m6.set, below_setM q6 (Nat.le_refl _)⟩
  clear m6 q6
  have hlk := run_look m7 f hf9
  rw [HWV.out] at hlk
  have q8 : Below w2.heap.size w2 (M7.alloc (.cells #[.int .i64 (A : Nat), .int .i64 (Bq : Nat), .int .i64 (Nq : Nat)] 98)) := q7.alloc q7.size _
  have hlt := (Array.getElem?_eq_some_iff.1 HK0.out).1
  have K0 : Blk3 w1 w.heap.size (.int .i64 0) (.int .i64 0) (.int .i64 0) 98 := HK0.out
  have K8 := Lib.hid (((K0.below hb2).belowB q8 (Nat.lt_of_lt_of_le hlt hb2.size)))
  have HB8 := Lib.hid (HB2.out.trans (q8.mono hgw))
  clear m7 q7 m0 q0 hb2 q8 HK0 K0 hlt
  obtain ⟨c0, c1, c2, f0, f1, f2, lt8⟩ := K8.out.box
  go_wp2_with fail
  exact bodyPost_ret (results_cell_row_tmp rfl _ _ w.heap.size _ _ _ _ rfl K8.out.set Try.underlying98 rfl info3) rfl ⟨rfl, HB8.out.trans (keep33 _ _ _ _ _)⟩
end Go.Proofs.Ytbcldlbmbdfejaa
/- image: the widths at every operation; the reference's. No condition. -/
namespace Go.Proofs.Ytbcldlbmbdfejaa
open Go.ChangeShapes Go.WideShapes Go.ChangeAt Go.RowKit
set_option maxHeartbeats 4000000 in
set_option maxRecDepth 100000 in
theorem widths_any (w : World) (k : Nat) (hk : k < 256) : Calls Try.prog 42 #[.int .u8 (k : Nat)] w fun e w' => e = .returned (.tuple #[WV (imgW k), .bool (imgW k).2.2.2]) ∧ Below w.heap.size w w' := by
  by_cases hp : plainOp k
  · exact widths_plain w k hk hp
  · have h8 : k = 18 ∨ k = 20 ∨ k = 240 ∨ k = 182 ∨ k = 178 ∨ k = 179 ∨ k = 180 ∨ k = 181 := by
      unfold plainOp at hp
      omega
    clear hp hk
    rcases h8 with rfl | rfl | rfl | rfl | rfl | rfl | rfl | rfl
    all_goals
      go_enter Try.func42, Try.ntmps42
      go_wp2_with fail
      exact bodyPost_ret (results_cell_row_tmp rfl _ _ w.heap.size _ _ _ _ rfl (heap_alloc_last w _) Try.underlying98 rfl info3) rfl ⟨rfl, (Below.refl _ _).alloc (Nat.le_refl _) _⟩
/-- The reference's answer. -/
def refWV (k : Nat) : Value := .tuple #[.int .i64 ((imgW k).1 : Nat), .int .i64 ((imgW k).2.1 : Nat), .int .i64 ((imgW k).2.2.1 : Nat), .bool (imgW k).2.2.2]
theorem refW_leaf {k : Nat} (hk : k < 256) {a b n : Nat} {ok : Bool} (h : refW k = (a, b, n, ok)) : Ending.returned (.tuple #[.int .i64 (a : Nat), .int .i64 (b : Nat), .int .i64 (n : Nat), .bool ok]) = Ending.returned (refWV k) := by
  have e := refW_eq ⟨k, hk⟩
  simp only at e
  unfold refWV
  rw [← e, h]
theorem refW_plain {k : Nat} (h : plainOp k) : refW k = if formN k = 5 then (0, 0, 0, false) else formW (formN k) := by
  obtain ⟨h1, h2, h3, h4, h5, h6, h7, h8⟩ := h
  unfold refW
  rw [if_neg h1, if_neg h2, if_neg h3, if_neg (by omega)]
theorem results_tmp4 {fn : Func} {t u v x : Tmp} (h : fn.results = #[.tmp t, .tmp u, .tmp v, .tmp x]) (tmps : Array Value) (P : Program) (w : World) :
    (results fn tmps).run P w = .ok (.tuple #[tmps.getD t undef, tmps.getD u undef, tmps.getD v undef, tmps.getD x undef]) w := by
  simp [results, h]
set_option maxHeartbeats 4000000 in
set_option maxRecDepth 100000 in
theorem refWidths_any (w : World) (k : Nat) (hk : k < 256) : Calls Try.prog 50 #[.int .u8 (k : Nat)] w fun e w' => e = .returned (refWV k) ∧ w' = w := by
  by_cases hp : plainOp k
  · have HR := Lib.hid (refW_plain hp)
    have hf9 := formN_le k
    have hF := fun w' => refForm_any w' k hk
    have HL := Lib.hid (fun a b n ok => @refW_leaf k hk a b n ok)
    obtain ⟨f, hf⟩ : ∃ f, f = formN k := ⟨_, rfl⟩
    rw [← hf] at hF hf9 HR
    obtain ⟨h1, h2, h3, h4, h5, h6, h7, h8⟩ := hp
    have b0 : ((k : Int) == 18) = false := beq_eq_false_iff_ne.2 (by omega)
    have b1 : ((k : Int) == 20) = false := beq_eq_false_iff_ne.2 (by omega)
    have b2 : ((k : Int) == 240) = false := beq_eq_false_iff_ne.2 (by omega)
    have b3 : ((k : Int) == 182) = false := beq_eq_false_iff_ne.2 (by omega)
    have b4 : ((k : Int) == 178) = false := beq_eq_false_iff_ne.2 (by omega)
    have b5 : ((k : Int) == 179) = false := beq_eq_false_iff_ne.2 (by omega)
    have b6 : ((k : Int) == 180) = false := beq_eq_false_iff_ne.2 (by omega)
    have b7 : ((k : Int) == 181) = false := beq_eq_false_iff_ne.2 (by omega)
    have HF := Lib.hid hF
    clear hf h1 h2 h3 h4 h5 h6 h7 h8 hF
    have hfs : f = 0 ∨ f = 1 ∨ f = 2 ∨ f = 3 ∨ f = 4 ∨ f = 5 ∨ f = 6 ∨ f = 7 ∨ f = 8 ∨ f = 9 := by omega
    rcases hfs with rfl | rfl | rfl | rfl | rfl | rfl | rfl | rfl | rfl | rfl
    all_goals
      go_enter Try.func50, Try.ntmps50
      go_wp2_with fail
      refine (HF.out w).mono ?_
      rintro e w' ⟨rfl, rfl⟩
      go_wp2_with fail
      refine bodyPost_ret (results_tmp4 rfl _ _ _) rfl ⟨?_, rfl⟩
      first | exact HL.out 0 0 0 false HR.out | exact HL.out 0 0 0 true HR.out | exact HL.out 1 0 0 true HR.out | exact HL.out 0 0 1 true HR.out | exact HL.out 0 0 2 true HR.out | exact HL.out 2 0 0 true HR.out | exact HL.out 1 0 1 true HR.out
  · have h8 : k = 18 ∨ k = 20 ∨ k = 240 ∨ k = 182 ∨ k = 178 ∨ k = 179 ∨ k = 180 ∨ k = 181 := by
      unfold plainOp at hp
      omega
    clear hp hk
    rcases h8 with rfl | rfl | rfl | rfl | rfl | rfl | rfl | rfl
    all_goals
      go_enter Try.func50, Try.ntmps50
      go_wp2_with fail
      exact bodyPost_ret (results_tmp4 rfl _ _ _) rfl ⟨rfl, rfl⟩
end Go.Proofs.Ytbcldlbmbdfejaa
/- Blocks of four cells. Over any program. -/
namespace Go.Proofs.Ytbcldlbmbdfejaa
open Go.ChangeShapes Go.WideShapes Go.ChangeAt Go.RowKit
structure Box4 (w : World) (g : Nat) (x y z u : Value) : Prop where
  c0 : w.cell? ⟨g, 0, none⟩ = some x
  c1 : w.cell? ⟨g, 1, none⟩ = some y
  c2 : w.cell? ⟨g, 2, none⟩ = some z
  c3 : w.cell? ⟨g, 3, none⟩ = some u
  f0 : w.frozen? ⟨g, 0, none⟩ = false
  f1 : w.frozen? ⟨g, 1, none⟩ = false
  f2 : w.frozen? ⟨g, 2, none⟩ = false
  f3 : w.frozen? ⟨g, 3, none⟩ = false
  lt : g < w.heap.size
def Blk4 (w : World) (g : Nat) (x y z u : Value) (t : TypeId) : Prop := w.heap[g]? = some (.cells #[x, y, z, u] t)
theorem Blk4.box {w : World} {g : Nat} {x y z u : Value} {t : TypeId} (h : Blk4 w g x y z u t) : Box4 w g x y z u := by
  unfold Blk4 at h
  refine ⟨?_, ?_, ?_, ?_, ?_, ?_, ?_, ?_, (Array.getElem?_eq_some_iff.1 h).1⟩
  · rw [cell_of_row w _ 0 _ _ _ h]; rfl
  · rw [cell_of_row w _ 1 _ _ _ h]; rfl
  · rw [cell_of_row w _ 2 _ _ _ h]; rfl
  · rw [cell_of_row w _ 3 _ _ _ h]; rfl
  all_goals (unfold World.frozen?; rw [h]; rfl)
theorem Blk4.belowB {w w1 : World} {B g : Nat} {x y z u : Value} {t : TypeId} (h : Blk4 w g x y z u t) (hb : Below B w w1) (hlt : g < B) : Blk4 w1 g x y z u t := by
  unfold Blk4
  rw [hb.block _ hlt]; exact h
theorem Blk4.below {w w1 : World} {g : Nat} {x y z u : Value} {t : TypeId} (h : Blk4 w g x y z u t) (hb : Below w.heap.size w w1) : Blk4 w1 g x y z u t := h.belowB hb (Array.getElem?_eq_some_iff.1 h).1
theorem Blk4.other {w : World} {g h o : Nat} {x y z u v : Value} {t : TypeId} (k : Blk4 w g x y z u t) (hne : g ≠ h) : Blk4 (w.setCell ⟨h, o, none⟩ v) g x y z u t := by
  unfold Blk4 World.setCell
  have hne' : ¬ h = g := fun e => hne e.symm
  simp [Array.getElem?_modify, hne']
  exact k
theorem Blk4.set {w : World} {g : Nat} {x y z u x' y' z' u' : Value} {t : TypeId} (h : Blk4 w g x y z u t) : Blk4 ((((w.setCell ⟨g, 0, none⟩ x').setCell ⟨g, 1, none⟩ y').setCell ⟨g, 2, none⟩ z').setCell ⟨g, 3, none⟩ u') g x' y' z' u' t :=
  heap_set3 (heap_set3 (heap_set3 (heap_set3 h 0 x') 1 y') 2 z') 3 u'
theorem Blk4.set1 {w : World} {g : Nat} {x y z u v : Value} {t : TypeId} (h : Blk4 w g x y z u t) : Blk4 (w.setCell ⟨g, 1, none⟩ v) g x v z u t := heap_set3 h 1 v
theorem Blk4.set2 {w : World} {g : Nat} {x y z u v : Value} {t : TypeId} (h : Blk4 w g x y z u t) : Blk4 (w.setCell ⟨g, 2, none⟩ v) g x y v u t := heap_set3 h 2 v
theorem Blk4.set3 {w : World} {g : Nat} {x y z u v : Value} {t : TypeId} (h : Blk4 w g x y z u t) : Blk4 (w.setCell ⟨g, 3, none⟩ v) g x y z v t := heap_set3 h 3 v
theorem keep44 (g : Nat) (w : World) (x y z u : Value) : Below g w ((((w.setCell ⟨g, 0, none⟩ x).setCell ⟨g, 1, none⟩ y).setCell ⟨g, 2, none⟩ z).setCell ⟨g, 3, none⟩ u) :=
  ((((Below.refl g w).setCell (p := ⟨g, 0, none⟩) (Nat.le_refl g) x).setCell (p := ⟨g, 1, none⟩) (Nat.le_refl g) y).setCell (p := ⟨g, 2, none⟩) (Nat.le_refl g) z).setCell (p := ⟨g, 3, none⟩) (Nat.le_refl g) u
theorem results_cell_row_tmp2 {P : Program} {fn : Func} {p u v : Tmp} {ty : TypeId} (h : fn.results = #[.cell p ty, .tmp u, .tmp v]) (tmps : Array Value) (w : World) (g : Nat) (t : TypeId) (cs : Array Value) (fr : Nat × Nat) (d : TypeDesc)
    (hp : tmps.getD p undef = .pointer (some ⟨g, 0, none⟩)) (hg : w.heap[g]? = some (.cells cs t fr))
    (hu : P.underlying ty = some d) (hd : (match d with | .struct _ | .array _ _ => true | _ => false) = true) (hi : (P.info? ty).map (·.size) = some cs.size) :
    (results fn tmps).run P w = .ok (.tuple #[.agg cs, tmps.getD u undef, tmps.getD v undef]) w := by
  have hl := run_loadVar_row w g t ty cs fr d hg hu hd hi
  have hp' : tmps[p]?.getD undef = .pointer (some ⟨g, 0, none⟩) := by simpa using hp
  simp [results, h, hp', asAddr, hl, Result.andThen]
end Go.Proofs.Ytbcldlbmbdfejaa
/- A region that draws its order, walked once, where what is known of the worlds grows on the way. Over any program. -/
namespace Go.Proofs.Ytbcldlbmbdfejaa
open Go.RowKit
theorem wpAnyH_mono {P : Program} {md : Region.Mode} {ops : Array Oper} {Q : Exit → Act → World → Prop} {S S' : World → Prop} (hS : ∀ x, S' x → S x) :
    ∀ (fuel : Nat) (listed : Array Bool) (a : Act) (w : World), wpAnyH P md ops Q S' fuel listed a w → wpAnyH P md ops Q S fuel listed a w
  | 0, _, _, _, h => h
  | fuel + 1, _, _, _, h => ⟨h.1, fun i hi => wpOp_mono (fun a' w' h' => ⟨hS _ h'.1, wpAnyH_mono hS fuel _ a' w' h'.2⟩) (h.2 i hi)⟩
def wpLex2 (P : Program) (ops : Array Oper) (Q : Exit → Act → World → Prop) : List (Nat × Bool) → (World → Prop) → Act → World → Prop
  | [], _, a, w => Q .normal a w
  | (i, b) :: l, S, a, w => ∃ S' : World → Prop, (∀ x, S' x → S x) ∧ lexOp P ops Q S' i b (wpLex2 P ops Q l S') a w
theorem lex2_sound {P : Program} {ops : Array Oper} {Q : Exit → Act → World → Prop} (hs : Region.noSelect ops = true) (hQ : ∀ c a d v w, Q (.panic c) (a.put d v) w → Q (.panic c) a w) :
    ∀ (l : List (Nat × Bool)) (S : World → Prop) (listed : Array Bool) (a : Act) (w : World), checkLex ops listed l = true → wpLex2 P ops Q l S a w → wpAnyH P .any ops Q S l.length listed a w := by
  intro l
  induction l with
  | nil =>
    intro S listed a w hc h
    exact ⟨by simpa [checkLex] using hc, h⟩
  | cons p l ih =>
    obtain ⟨i, b⟩ := p
    intro S listed a w hc h
    obtain ⟨S', hSS, h⟩ := h
    refine wpAnyH_mono hSS _ _ _ _ ?_
    simp only [checkLex, Bool.and_eq_true] at hc
    obtain ⟨hc1, hc2⟩ := hc
    unfold lexOp at h
    cases ho : ops[i]? with
    | none => rw [ho] at h; exact h.elim
    | some o =>
      rw [ho] at h
      simp only at h
      cases b with
      | true =>
        simp only [if_true, Bool.and_eq_true] at hc1
        obtain ⟨hf, hr⟩ := hc1
        by_cases hw : Region.wanted o (yielded ops a.tmps) = true
        · rw [if_pos hw] at h
          obtain ⟨v, h1, h2, h3⟩ := h
          exact wpAnyH_take ho hs hf hr (fun c a w => hQ c a _ _ w) (.inl ⟨hw, h1⟩) h2 (ih _ _ _ _ hc2 h3)
        · rw [if_neg hw] at h
          exact wpAnyH_take ho hs hf hr (fun c a w => hQ c a _ _ w) (.inr ⟨by simpa using hw, rfl⟩) h.1 (ih _ _ _ _ hc2 h.2)
      | false =>
        simp only [Bool.false_eq_true, if_false] at hc1
        have hr : Region.ready .any ops listed = [i] := by simpa using hc1
        refine wpAnyH_all hr (by simp) (fun j hj => ?_)
        obtain rfl : j = i := by simpa using hj
        unfold wpOp
        rw [ho]
        simp only
        by_cases hw : Region.wanted o (yielded ops a.tmps) = true
        · rw [if_pos hw] at h
          simp only [hw, if_true]
          exact .inl (Oper.wp_mono (fun a' w' h' => ⟨h'.1, ih _ _ _ _ hc2 h'.2⟩) h)
        · rw [if_neg hw] at h
          simp only [hw]
          exact ⟨h.1, ih _ _ _ _ hc2 h.2⟩
theorem wp_region_lex2 {P : Program} {id : Nat} {ops : Array Oper} {Q : Exit → Act → World → Prop} {a : Act} {w : World} (S : World → Prop) (l : List (Nat × Bool)) (hm : P.follows .mixedOrders = true)
    (hc : (Region.noSelect ops && (l.length == ops.size) && checkLex ops (Array.replicate ops.size false) l) = true) (hQ : ∀ c a d v w, Q (.panic c) (a.put d v) w → Q (.panic c) a w)
    (h : wpLex2 P ops Q l S a w.drew) : (Code.region id ops true).wp P Q a w := by
  simp only [Bool.and_eq_true, beq_iff_eq] at hc
  obtain ⟨⟨hs, hl⟩, hk⟩ := hc
  have := lex2_sound (P := P) (Q := Q) hs hQ l S _ a _ hk h
  rw [hl] at this
  exact wp_region_held hm this
theorem lex2_step {P : Program} {ops : Array Oper} {Q : Exit → Act → World → Prop} {S : World → Prop} {i : Nat} {b : Bool} {l : List (Nat × Bool)} {a : Act} {w : World}
    (h : ∀ K : Act → World → Prop, (∀ a w, wpLex2 P ops Q l S a w → K a w) → lexOp P ops Q S i b K a w) : wpLex2 P ops Q ((i, b) :: l) S a w := ⟨S, fun _ h => h, h _ (fun _ _ h => h)⟩
/-- From here on more is known of the worlds. -/
theorem lex2_strong {P : Program} {ops : Array Oper} {Q : Exit → Act → World → Prop} {S : World → Prop} {l : List (Nat × Bool)} {a : Act} {w : World} (S' : World → Prop) (hS : ∀ x, S' x → S x) (h : wpLex2 P ops Q l S' a w) : wpLex2 P ops Q l S a w := by
  cases l with
  | nil => exact h
  | cons p l =>
    obtain ⟨i, b⟩ := p
    obtain ⟨S2, h2, h3⟩ := h
    exact ⟨S2, fun x hx => hS x (h2 x hx), h3⟩
theorem lex2_nil {P : Program} {ops : Array Oper} {Q : Exit → Act → World → Prop} {S : World → Prop} {a : Act} {w : World} (h : Q .normal a w) : wpLex2 P ops Q [] S a w := h
end Go.Proofs.Ytbcldlbmbdfejaa
