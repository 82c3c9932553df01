/- Blocks of three cells. Over any program. -/
import Derived.Test.YtbcldlbmbdfejaaLib3
namespace Go.Proofs.Ytbcldlbmbdfejaa
open Go.ChangeShapes Go.WideShapes Go.ChangeAt Go.RowKit
structure Box3 (w w1 : World) (g : Nat) (x y z : Value) : Prop where
  c0 : w1.cell? ⟨g, 0, none⟩ = some x
  c1 : w1.cell? ⟨g, 1, none⟩ = some y
  c2 : w1.cell? ⟨g, 2, none⟩ = some z
  f0 : w1.frozen? ⟨g, 0, none⟩ = false
  f1 : w1.frozen? ⟨g, 1, none⟩ = false
  f2 : w1.frozen? ⟨g, 2, none⟩ = false
  lt : g < w1.heap.size
theorem Box3.of {w w1 : World} {g : Nat} {x y z : Value} {t : TypeId} (h : w.heap[g]? = some (.cells #[x, y, z] t)) (hb : Below w.heap.size w w1) : Box3 w w1 g x y z := by
  have hlt : g < w.heap.size := (Array.getElem?_eq_some_iff.1 h).1
  have hg : w1.heap[g]? = some (.cells #[x, y, z] t) := by rw [hb.block _ hlt]; exact h
  refine ⟨?_, ?_, ?_, ?_, ?_, ?_, (Array.getElem?_eq_some_iff.1 hg).1⟩
  · rw [cell_of_row w1 _ 0 _ _ _ hg]; rfl
  · rw [cell_of_row w1 _ 1 _ _ _ hg]; rfl
  · rw [cell_of_row w1 _ 2 _ _ _ hg]; rfl
  all_goals (unfold World.frozen?; rw [hg]; rfl)
theorem heap_set3 {w : World} {g : Nat} {cs : Array Value} {t : TypeId} {fr : Nat × Nat} (h : w.heap[g]? = some (.cells cs t fr)) (o : Nat) (v : Value) : (w.setCell ⟨g, o, none⟩ v).heap[g]? = some (.cells (cs.setIfInBounds o v) t fr) := by
  unfold World.setCell
  simp [Array.getElem?_modify, h]
/-- A block of three cells behind which the walk goes. -/
def Blk3 (w : World) (g : Nat) (x y z : Value) (t : TypeId) : Prop := w.heap[g]? = some (.cells #[x, y, z] t)
theorem Blk3.below {w w1 : World} {g : Nat} {x y z : Value} {t : TypeId} (h : Blk3 w g x y z t) (hb : Below w.heap.size w w1) : Blk3 w1 g x y z t := by
  unfold Blk3
  rw [hb.block _ (Array.getElem?_eq_some_iff.1 h).1]; exact h
theorem Blk3.box {w : World} {g : Nat} {x y z : Value} {t : TypeId} (h : Blk3 w g x y z t) : Box3 w w g x y z := Box3.of h (Below.refl _ _)
theorem Blk3.set {w : World} {g : Nat} {x y z x' y' z' : Value} {t : TypeId} (h : Blk3 w g x y z t) : Blk3 (((w.setCell ⟨g, 0, none⟩ x').setCell ⟨g, 1, none⟩ y').setCell ⟨g, 2, none⟩ z') g x' y' z' t :=
  heap_set3 (heap_set3 (heap_set3 h 0 x') 1 y') 2 z'
theorem keep33 (g : Nat) (w : World) (x y z : Value) : Below g w (((w.setCell ⟨g, 0, none⟩ x).setCell ⟨g, 1, none⟩ y).setCell ⟨g, 2, none⟩ z) :=
  (((Below.refl g w).setCell (p := ⟨g, 0, none⟩) (Nat.le_refl g) x).setCell (p := ⟨g, 1, none⟩) (Nat.le_refl g) y).setCell (p := ⟨g, 2, none⟩) (Nat.le_refl g) z
theorem Blk3.other {w : World} {g h o : Nat} {x y z v : Value} {t : TypeId} (k : Blk3 w g x y z t) (hne : g ≠ h) : Blk3 (w.setCell ⟨h, o, none⟩ v) g x y z t := by
  unfold Blk3 World.setCell
  have hne' : ¬ h = g := fun e => hne e.symm
  simp [Array.getElem?_modify, hne']
  exact k
theorem Blk3.belowB {w w1 : World} {B g : Nat} {x y z : Value} {t : TypeId} (h : Blk3 w g x y z t) (hb : Below B w w1) (hlt : g < B) : Blk3 w1 g x y z t := by
  unfold Blk3
  rw [hb.block _ hlt]; exact h
end Go.Proofs.Ytbcldlbmbdfejaa
