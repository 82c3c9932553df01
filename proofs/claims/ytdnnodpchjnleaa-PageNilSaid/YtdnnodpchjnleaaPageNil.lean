/- page: the walk of PageNil. No condition. -/
import Derived.Test.YtdnnodpchjnleaaPageLaw
namespace Go.Proofs.Ytdnnodpchjnleaa
open Go.ChangeShapes Go.WideShapes Go.ChangeAt Go.RowKit
theorem infoGeo : (Try.prog.info? 43).map (·.size) = some 3 := by kernel_rfl
theorem infoSec : (Try.prog.info? 33).map (·.size) = some 3 := by kernel_rfl
set_option maxRecDepth 100000 in
set_option maxHeartbeats 1000000 in
theorem Geometry_nil (w : World) : Calls Try.prog 27 #[.pointer none] w fun e w' => e = .returned (.agg #[.int .i64 0, .int .i64 0, .int .i64 0]) ∧ Below w.heap.size w w' := by
  go_enter Try.func27, Try.ntmps27
  go_wp2_with fail
  exact bodyPost_ret (results_cell_row rfl _ _ w.heap.size _ _ _ _ rfl (heap_alloc_last w _) Try.underlying43 rfl infoGeo) rfl ⟨rfl, (Below.refl _ _).alloc (Nat.le_refl _) _⟩
/-- A block of three cells. -/
def Tri (w : World) (g : Nat) (x y z : Value) (t : TypeId) : Prop := w.heap[g]? = some (.cells #[x, y, z] t)
theorem Tri.below {w w' : World} {g : Nat} {x y z : Value} {t : TypeId} (h : Tri w g x y z t) (hb : Below w.heap.size w w') : Tri w' g x y z t := by
  unfold Tri at *
  rw [hb.block g (Array.getElem?_eq_some_iff.1 h).1]; exact h
theorem Tri.cells {w : World} {g : Nat} {x y z : Value} {t : TypeId} (h : Tri w g x y z t) : (w.cell? ⟨g, 0, none⟩ = some x ∧ w.cell? ⟨g, 1, none⟩ = some y ∧ w.cell? ⟨g, 2, none⟩ = some z) ∧ (∀ i, w.frozen? ⟨g, i, none⟩ = false) ∧ g < w.heap.size := by
  refine ⟨⟨?_, ?_, ?_⟩, fun i => ?_, (Array.getElem?_eq_some_iff.1 h).1⟩
  · rw [cell_of_row w g 0 _ _ _ h]; rfl
  · rw [cell_of_row w g 1 _ _ _ h]; rfl
  · rw [cell_of_row w g 2 _ _ _ h]; rfl
  · unfold World.frozen?; rw [show w.heap[g]? = _ from h]; rfl
theorem Tri.set {w : World} {g : Nat} {x y z x' y' z' : Value} {t : TypeId} (h : Tri w g x y z t) : Tri (((w.setCell ⟨g, 0, none⟩ x').setCell ⟨g, 1, none⟩ y').setCell ⟨g, 2, none⟩ z') g x' y' z' t :=
  heap_set (heap_set (heap_set h 0 x') 1 y') 2 z'
theorem Tri.other {w : World} {g : Nat} {x y z : Value} {t : TypeId} (h : Tri w g x y z t) (o : Obj) : Tri (w.alloc o) g x y z t := h.below ((Below.refl _ _).alloc (Nat.le_refl _) _)
set_option maxRecDepth 100000 in
set_option maxHeartbeats 1000000 in
theorem Look_nil (w : World) (s : Int) : Calls Try.prog 11 #[.pointer none, .int .i64 s] w fun e w' => e = .returned (.tuple #[.agg #[.int .i64 0, .int .u32 0, .int .i64 0], .int .i64 2]) ∧ Below w.heap.size w w' := by
  have K0 := Lib.hid (show Tri (w.alloc (.cells #[.int .i64 0, .int .u32 0, .int .i64 0] 33)) w.heap.size _ _ _ _ from heap_alloc_last w _)
  have H0 := Lib.hid ((Below.refl w.heap.size w).alloc (Nat.le_refl _) (.cells #[.int .i64 0, .int .u32 0, .int .i64 0] 33))
  by_cases h : s < 0
  all_goals
    go_enter Try.func11, Try.ntmps11
    go_wp2_with fail
    with_reducible refine (Geometry_nil _).mono ?_
    rintro e w1 ⟨rfl, hb⟩
    have K1 := Lib.hid (((K0.out.below hb).set (x' := .int .i64 0) (y' := .int .u32 0) (z' := .int .i64 0)).other (.cells #[.int .i64 0, .int .i64 0, .int .i64 0] 43))
    have hbb := (H0.out.trans (hb.mono H0.out.size)).trans (keep3 w.heap.size w1 (.int .i64 0) (.int .u32 0) (.int .i64 0))
    have H1 := Lib.hid (hbb.alloc hbb.size (.cells #[.int .i64 0, .int .i64 0, .int .i64 0] 43))
    obtain ⟨⟨c0, c1, c2⟩, cf, clt⟩ := (K0.out.below hb).cells
    have f0 := cf 0
    have f1 := cf 1
    have f2 := cf 2
    clear hb hbb cf
    go_wp2_with fail
    exact bodyPost_ret (results_cell_row_tmp rfl _ _ w.heap.size _ _ _ _ rfl K1.out Try.underlying33 rfl infoSec) rfl ⟨rfl, H1.out⟩
set_option maxRecDepth 100000 in
set_option maxHeartbeats 1000000 in
theorem Open_nil (w : World) (s q : Int) : Calls Try.prog 12 #[.pointer none, .int .i64 s, .int .u32 q] w fun e w' => e = .returned (.int .i64 2) ∧ Below w.heap.size w w' := by
  go_enter Try.func12, Try.ntmps12
  go_wp2_with fail
  with_reducible refine (Look_nil _ _).mono ?_
  rintro e w1 ⟨rfl, hb⟩
  have H1 := Lib.hid (hb.alloc hb.size (.cells #[.int .i64 0, .int .u32 0, .int .i64 0] 33))
  clear hb
  go_wp2_with fail
  go_ret
  exact ⟨rfl, H1.out⟩
set_option maxRecDepth 100000 in
set_option maxHeartbeats 1000000 in
theorem Void_nil (w : World) (s : Int) : Calls Try.prog 13 #[.pointer none, .int .i64 s] w fun e w' => e = .returned (.int .i64 2) ∧ Below w.heap.size w w' := by
  by_cases h : s < 0
  all_goals
    go_enter Try.func13, Try.ntmps13
    go_wp2_with fail
    with_reducible refine (Geometry_nil _).mono ?_
    rintro e w1 ⟨rfl, hb⟩
    have H1 := Lib.hid (hb.alloc hb.size (.cells #[.int .i64 0, .int .i64 0, .int .i64 0] 43))
    clear hb
    go_wp2_with fail
    go_ret
    exact ⟨rfl, H1.out⟩
set_option maxRecDepth 100000 in
set_option maxHeartbeats 1000000 in
theorem walk_PageNil (s q : Int) (w : World) (hs : (Lit.int .i64 s).wf = true) (hq : (Lit.int .u32 q).wf = true) :
    Calls Try.prog 4 #[.int .i64 s, .int .u32 q] w fun e w' => e = .returned (.bool true) ∧ Below w.heap.size w w' := by
  clear hs hq
  go_enter Try.func4, Try.ntmps4
  go_wp2_with fail
  with_reducible refine (fixed04_any _).mono ?_
  rintro e w1 ⟨rfl, hb⟩
  have H := Lib.hid hb
  clear hb
  go_wp2_with fail
  with_reducible refine (Look_nil _ _).mono ?_
  rintro e w2 ⟨rfl, hb⟩
  have hbb := H.out.trans (hb.mono H.out.size)
  replace H := Lib.hid (hbb.alloc hbb.size (.cells #[.int .i64 0, .int .u32 0, .int .i64 0] 33))
  clear hb hbb
  go_wp2_with fail
  with_reducible refine (Open_nil _ _ _).mono ?_
  rintro e w3 ⟨rfl, hb⟩
  replace H := Lib.hid (H.out.trans (hb.mono H.out.size))
  clear hb
  go_wp2_with fail
  with_reducible refine (Void_nil _ _).mono ?_
  rintro e w4 ⟨rfl, hb⟩
  replace H := Lib.hid (H.out.trans (hb.mono H.out.size))
  clear hb
  go_wp2_with fail
  go_ret
  exact ⟨rfl, H.out⟩
end Go.Proofs.Ytdnnodpchjnleaa
