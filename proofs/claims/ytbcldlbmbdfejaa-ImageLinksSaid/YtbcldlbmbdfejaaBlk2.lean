/- Blocks of two cells; what keeps all but one block. Over any program. -/
import Derived.Test.YtbcldlbmbdfejaaBlk3
namespace Go.Proofs.Ytbcldlbmbdfejaa
open Go.ChangeShapes Go.WideShapes Go.ChangeAt Go.RowKit
structure Box2 (w : World) (g : Nat) (x y : Value) : Prop where
  c0 : w.cell? ⟨g, 0, none⟩ = some x
  c1 : w.cell? ⟨g, 1, none⟩ = some y
  f0 : w.frozen? ⟨g, 0, none⟩ = false
  f1 : w.frozen? ⟨g, 1, none⟩ = false
  lt : g < w.heap.size
def Blk2 (w : World) (g : Nat) (x y : Value) (t : TypeId) : Prop := w.heap[g]? = some (.cells #[x, y] t)
theorem Blk2.box {w : World} {g : Nat} {x y : Value} {t : TypeId} (h : Blk2 w g x y t) : Box2 w g x y := by
  unfold Blk2 at h
  refine ⟨?_, ?_, ?_, ?_, (Array.getElem?_eq_some_iff.1 h).1⟩
  · rw [cell_of_row w _ 0 _ _ _ h]; rfl
  · rw [cell_of_row w _ 1 _ _ _ h]; rfl
  all_goals (unfold World.frozen?; rw [h]; rfl)
theorem Blk2.belowB {w w1 : World} {B g : Nat} {x y : Value} {t : TypeId} (h : Blk2 w g x y t) (hb : Below B w w1) (hlt : g < B) : Blk2 w1 g x y t := by
  unfold Blk2
  rw [hb.block _ hlt]; exact h
theorem Blk2.below {w w1 : World} {g : Nat} {x y : Value} {t : TypeId} (h : Blk2 w g x y t) (hb : Below w.heap.size w w1) : Blk2 w1 g x y t := h.belowB hb (Array.getElem?_eq_some_iff.1 h).1
theorem Blk2.other {w : World} {g h o : Nat} {x y v : Value} {t : TypeId} (k : Blk2 w g x y t) (hne : g ≠ h) : Blk2 (w.setCell ⟨h, o, none⟩ v) g x y t := by
  unfold Blk2 World.setCell
  have hne' : ¬ h = g := fun e => hne e.symm
  simp [Array.getElem?_modify, hne']
  exact k
theorem Blk2.set0 {w : World} {g : Nat} {x y v : Value} {t : TypeId} (h : Blk2 w g x y t) : Blk2 (w.setCell ⟨g, 0, none⟩ v) g v y t := heap_set3 h 0 v
theorem Blk2.set1 {w : World} {g : Nat} {x y v : Value} {t : TypeId} (h : Blk2 w g x y t) : Blk2 (w.setCell ⟨g, 1, none⟩ v) g x v t := heap_set3 h 1 v
/-- What is there stays, but for block g. -/
structure Keep1 (g : Nat) (w w' : World) : Prop where
  os : w'.os = w.os
  tape : w'.tape = w.tape
  output : w'.output = w.output
  size : w.heap.size ≤ w'.heap.size
  block : ∀ k, k < w.heap.size → k ≠ g → w'.heap[k]? = w.heap[k]?
theorem Keep1.refl (g : Nat) (w : World) : Keep1 g w w := ⟨rfl, rfl, rfl, Nat.le_refl _, fun _ _ _ => rfl⟩
theorem Keep1.trans {g : Nat} {w w1 w2 : World} (h : Keep1 g w w1) (k : Keep1 g w1 w2) : Keep1 g w w2 :=
  ⟨k.os.trans h.os, k.tape.trans h.tape, k.output.trans h.output, Nat.le_trans h.size k.size, fun i hi hg => by rw [k.block i (Nat.lt_of_lt_of_le hi h.size) hg, h.block i hi hg]⟩
theorem Keep1.of {g : Nat} {w w1 : World} (h : Below w.heap.size w w1) : Keep1 g w w1 := ⟨h.os, h.tape, h.output, h.size, fun k hk _ => h.block k hk⟩
theorem Keep1.drew {g : Nat} {w w1 : World} (h : Keep1 g w w1) : Keep1 g w w1.drew := ⟨h.os, h.tape, h.output, h.size, h.block⟩
theorem Keep1.drewN {g : Nat} {w w1 : World} (h : Keep1 g w w1) (n : Nat) : Keep1 g w (w1.drewN n) := ⟨h.os, h.tape, h.output, h.size, h.block⟩
theorem Keep1.set {g : Nat} {w w1 : World} (h : Keep1 g w w1) (o : Nat) (v : Value) : Keep1 g w (w1.setCell ⟨g, o, none⟩ v) :=
  ⟨h.os, h.tape, h.output, by have := h.size; unfold World.setCell; simpa using this, fun k hk hg => by
    rw [← h.block k hk hg]
    unfold World.setCell
    have hne' : ¬ g = k := fun e => hg e.symm
    simp [Array.getElem?_modify, hne']⟩
theorem Keep1.below {g B : Nat} {w0 w w' : World} (h : Keep1 g w w') (hb : Below B w0 w) (hB : B ≤ w0.heap.size) (hg : B ≤ g) : Below B w0 w' :=
  ⟨h.os.trans hb.os, h.tape.trans hb.tape, h.output.trans hb.output, Nat.le_trans hb.size h.size, fun k hk => by
    rw [h.block k (Nat.lt_of_lt_of_le (Nat.lt_of_lt_of_le hk hB) hb.size) (by omega)]; exact hb.block k hk⟩
/-- A slice that is not in block g. -/
def Off1 (x : Option Addr) (n g : Nat) : Prop := 0 < n → ∀ b off, x = some ⟨b, off, none⟩ → b ≠ g
theorem Off1.old {α : Type} {enc : α → Value} {w : World} {x : Option Addr} {n g : Nat} {xs : List α} (h : Sl enc w x n xs) (hg : w.heap.size ≤ g) : Off1 x n g := by
  intro hn b off hx
  obtain ⟨b', off', hx', hlt, _⟩ := h.2 hn
  rw [hx] at hx'
  simp only [Option.some.injEq, Addr.mk.injEq] at hx'
  omega
theorem Off1.new {x off n g : Nat} (h : g ≠ x) : Off1 (some ⟨x, off, none⟩) n g := fun _ b o e => by cases e; exact Ne.symm h
theorem Off1.nil {a : Option Addr} {g : Nat} : Off1 a 0 g := fun h => absurd h (by omega)
theorem Sl.keep1 {α : Type} {enc : α → Value} {g : Nat} {w w' : World} {x : Option Addr} {n : Nat} {xs : List α} (hs : Sl enc w x n xs) (h : Keep1 g w w') (h1 : Off1 x n g) : Sl enc w' x n xs := by
  refine ⟨hs.1, fun hn => ?_⟩
  obtain ⟨b, off, ha, hlt, hc⟩ := hs.2 hn
  refine ⟨b, off, ha, Nat.lt_of_lt_of_le hlt h.size, fun i hi => ?_⟩
  rw [← hc i hi]
  unfold World.cell?
  rw [h.block b hlt (h1 hn b off ha)]
theorem Off1.own {w : World} {B : Nat} {e : TypeId} {a : Option Addr} {n c g : Nat} {xs : List Value} (h : w.ownsRow B e 1 (.slice a n c) n xs) (hg : g < B) : Off1 a n g := by
  intro hn b off hx
  obtain ⟨g', hx', hB, _⟩ := own_addr h hn
  rw [hx] at hx'
  simp only [Option.some.injEq, Addr.mk.injEq] at hx'
  omega
theorem own_keep1 {g : Nat} {w w' : World} {B : Nat} {e : TypeId} {size : Nat} {v : Value} {n : Nat} {xs : List Value} (h : w.ownsRow B e size v n xs) (k : Keep1 g w w') (hg : g < B) : w'.ownsRow B e size v n xs := by
  refine ⟨h.1, ?_⟩
  rcases h.2 with ⟨h1, h2⟩ | ⟨b, cap, cur, hv, hb, hc, r⟩
  · exact .inl ⟨h1, h2⟩
  · exact .inr ⟨b, cap, cur, hv, hb, by rw [k.block b (Array.getElem?_eq_some_iff.1 hc).1 (by omega)]; exact hc, r⟩
theorem keep1_app {g : Nat} {w w1 w2 : World} {e : TypeId} {size : Nat} {v : Value} {n : Nat} {xs : List Value} (k : Keep1 g w w1) (h : w1.ownsRow w.heap.size e size v n xs) (hg : w1.grownBy w2 v.ownBlock) : Keep1 g w w2 := by
  refine ⟨hg.os.trans k.os, hg.tape.trans k.tape, hg.output.trans k.output, Nat.le_trans k.size hg.size, fun i hi hne => ?_⟩
  rw [hg.block i (Nat.lt_of_lt_of_le hi k.size) ?_, k.block i hi hne]
  intro he
  rcases h.2 with ⟨rfl, _⟩ | ⟨b, cap, cur, rfl, hb, _⟩
  · simp [Value.ownBlock] at he
  · simp [Value.ownBlock] at he
    omega
theorem keep1_appA {g : Nat} {w w1 w2 : World} {o : Obj} {e : TypeId} {size : Nat} {v : Value} {n : Nat} {xs : List Value} (k : Keep1 g w w1) (h : w1.ownsRow w.heap.size e size v n xs) (hg : (w1.alloc o).grownBy w2 v.ownBlock) : Keep1 g w w2 :=
  keep1_app (k.trans (Keep1.of ((Below.refl _ _).alloc (Nat.le_refl _) o))) (h.alloc o) hg
end Go.Proofs.Ytbcldlbmbdfejaa
