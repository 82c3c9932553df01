/- Blocks of four cells. Over any program. -/
import Derived.Test.YtbcldlbmbdfejaaBlk3
namespace Go.Proofs.Ytbcldlbmbdfejaa
open Go.ChangeShapes Go.WideShapes Go.ChangeAt Go.RowKit
structure Box4 (w : World) (g : Nat) (x y z u : Value) : Prop where
  c0 : w.cell? ⟨g, 0, none⟩ = some x
  c1 : w.cell? ⟨g, 1, none⟩ = some y
  c2 : w.cell? ⟨g, 2, none⟩ = some z
  c3 : w.cell? ⟨g, 3, none⟩ = some u
  f0 : w.frozen? ⟨g, 0, none⟩ = false
  f1 : w.frozen? ⟨g, 1, none⟩ = false
  f2 : w.frozen? ⟨g, 2, none⟩ = false
  f3 : w.frozen? ⟨g, 3, none⟩ = false
  lt : g < w.heap.size
def Blk4 (w : World) (g : Nat) (x y z u : Value) (t : TypeId) : Prop := w.heap[g]? = some (.cells #[x, y, z, u] t)
theorem Blk4.box {w : World} {g : Nat} {x y z u : Value} {t : TypeId} (h : Blk4 w g x y z u t) : Box4 w g x y z u := by
  unfold Blk4 at h
  refine ⟨?_, ?_, ?_, ?_, ?_, ?_, ?_, ?_, (Array.getElem?_eq_some_iff.1 h).1⟩
  · rw [cell_of_row w _ 0 _ _ _ h]; rfl
  · rw [cell_of_row w _ 1 _ _ _ h]; rfl
  · rw [cell_of_row w _ 2 _ _ _ h]; rfl
  · rw [cell_of_row w _ 3 _ _ _ h]; rfl
  all_goals (unfold World.frozen?; rw [h]; rfl)
theorem Blk4.belowB {w w1 : World} {B g : Nat} {x y z u : Value} {t : TypeId} (h : Blk4 w g x y z u t) (hb : Below B w w1) (hlt : g < B) : Blk4 w1 g x y z u t := by
  unfold Blk4
  rw [hb.block _ hlt]; exact h
theorem Blk4.below {w w1 : World} {g : Nat} {x y z u : Value} {t : TypeId} (h : Blk4 w g x y z u t) (hb : Below w.heap.size w w1) : Blk4 w1 g x y z u t := h.belowB hb (Array.getElem?_eq_some_iff.1 h).1
theorem Blk4.other {w : World} {g h o : Nat} {x y z u v : Value} {t : TypeId} (k : Blk4 w g x y z u t) (hne : g ≠ h) : Blk4 (w.setCell ⟨h, o, none⟩ v) g x y z u t := by
  unfold Blk4 World.setCell
  have hne' : ¬ h = g := fun e => hne e.symm
  simp [Array.getElem?_modify, hne']
  exact k
theorem Blk4.set {w : World} {g : Nat} {x y z u x' y' z' u' : Value} {t : TypeId} (h : Blk4 w g x y z u t) : Blk4 ((((w.setCell ⟨g, 0, none⟩ x').setCell ⟨g, 1, none⟩ y').setCell ⟨g, 2, none⟩ z').setCell ⟨g, 3, none⟩ u') g x' y' z' u' t :=
  heap_set3 (heap_set3 (heap_set3 (heap_set3 h 0 x') 1 y') 2 z') 3 u'
theorem Blk4.set1 {w : World} {g : Nat} {x y z u v : Value} {t : TypeId} (h : Blk4 w g x y z u t) : Blk4 (w.setCell ⟨g, 1, none⟩ v) g x v z u t := heap_set3 h 1 v
theorem Blk4.set2 {w : World} {g : Nat} {x y z u v : Value} {t : TypeId} (h : Blk4 w g x y z u t) : Blk4 (w.setCell ⟨g, 2, none⟩ v) g x y v u t := heap_set3 h 2 v
theorem Blk4.set3 {w : World} {g : Nat} {x y z u v : Value} {t : TypeId} (h : Blk4 w g x y z u t) : Blk4 (w.setCell ⟨g, 3, none⟩ v) g x y z v t := heap_set3 h 3 v
theorem keep44 (g : Nat) (w : World) (x y z u : Value) : Below g w ((((w.setCell ⟨g, 0, none⟩ x).setCell ⟨g, 1, none⟩ y).setCell ⟨g, 2, none⟩ z).setCell ⟨g, 3, none⟩ u) :=
  ((((Below.refl g w).setCell (p := ⟨g, 0, none⟩) (Nat.le_refl g) x).setCell (p := ⟨g, 1, none⟩) (Nat.le_refl g) y).setCell (p := ⟨g, 2, none⟩) (Nat.le_refl g) z).setCell (p := ⟨g, 3, none⟩) (Nat.le_refl g) u
theorem results_cell_row_tmp2 {P : Program} {fn : Func} {p u v : Tmp} {ty : TypeId} (h : fn.results = #[.cell p ty, .tmp u, .tmp v]) (tmps : Array Value) (w : World) (g : Nat) (t : TypeId) (cs : Array Value) (fr : Nat × Nat) (d : TypeDesc)
    (hp : tmps.getD p undef = .pointer (some ⟨g, 0, none⟩)) (hg : w.heap[g]? = some (.cells cs t fr))
    (hu : P.underlying ty = some d) (hd : (match d with | .struct _ | .array _ _ => true | _ => false) = true) (hi : (P.info? ty).map (·.size) = some cs.size) :
    (results fn tmps).run P w = .ok (.tuple #[.agg cs, tmps.getD u undef, tmps.getD v undef]) w := by
  have hl := run_loadVar_row w g t ty cs fr d hg hu hd hi
  have hp' : tmps[p]?.getD undef = .pointer (some ⟨g, 0, none⟩) := by simpa using hp
  simp [results, h, hp', asAddr, hl, Result.andThen]
end Go.Proofs.Ytbcldlbmbdfejaa
