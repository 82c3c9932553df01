/- ops: spans and forms. No condition. -/
import Derived.Test.YtbcldlbmbdfejaaOpsPlain
import Derived.Test.YtbcldlbmbdfejaaNumFn
import Derived.Deep.LoopGhost
import Derived.Deep.DeepCutAuto
namespace Go.Proofs.Ytbcldlbmbdfejaa
open Go.ChangeShapes Go.WideShapes Go.ChangeAt Go.RowKit
theorem Ss.lit {α : Type} {z : Nat} {enc : α → List Value} (hz : ∀ x, (enc x).length = z) {w : World} {g n : Nat} {xs : List α} {C : Array Value} {e : TypeId} {fr : Nat × Nat} (hg : w.heap[g]? = some (.cells C e fr)) (hC : C = (xs.flatMap enc).toArray) (hn : xs.length = n) : Ss z enc w (some ⟨g, 0, none⟩) n xs := by
  subst hC
  refine ⟨hn, fun _ => ⟨g, 0, rfl, (Array.getElem?_eq_some_iff.1 hg).1, fun i hi j hj => ?_⟩⟩
  rw [cell_of_row w g (0 + i * z + j) _ e fr hg, Nat.zero_add]
  simp only [List.getElem?_toArray]
  exact flat_at hz xs i hi j hj
def SpansRet (w : World) (e : Ending) (w' : World) : Prop := e = .returned (.slice (some ⟨w.heap.size, 0, none⟩) 38 38) ∧ Ss 3 spCells w' (some ⟨w.heap.size, 0, none⟩) 38 spansL ∧ Below w.heap.size w w' ∧ w'.heap.size = w.heap.size + 1
set_option maxRecDepth 100000 in
set_option maxHeartbeats 4000000 in
theorem spans_any (w : World) : Calls Try.prog 79 #[] w (SpansRet w) := by
  go_enter Try.func79, Try.ntmps79
  go_wp2_with fail
  go_ret
  exact ⟨rfl, Ss.lit spCells_length (heap_alloc_last w _) rfl rfl, (Below.refl _ _).alloc (Nat.le_refl _) _, by simp⟩
theorem heap_setO {w : World} {g : Nat} {cs : Array Value} {t : TypeId} {fr : Nat × Nat} (h : w.heap[g]? = some (.cells cs t fr)) (o : Nat) (v : Value) : (w.setCell ⟨g, o, none⟩ v).heap[g]? = some (.cells (cs.setIfInBounds o v) t fr) := by
  unfold World.setCell
  simp [Array.getElem?_modify, h]
theorem heap_setX {w : World} {g h : Nat} (hne : h ≠ g) (o : Nat) (v : Value) : (w.setCell ⟨g, o, none⟩ v).heap[h]? = w.heap[h]? := by
  unfold World.setCell
  simp [Array.getElem?_modify, Ne.symm hne]
theorem size_setX {w : World} {g : Nat} (o : Nat) (v : Value) : (w.setCell ⟨g, o, none⟩ v).heap.size = w.heap.size := by
  unfold World.setCell
  simp
def zs8 : Array Value := Array.replicate 256 (.int .u8 0)
theorem zero8 (w : World) : (zeroValue 133).run Try.prog w = .ok (.agg zs8) w := by kernel_rfl
theorem infoTab : (Try.prog.info? 133).map (·.size) = some 256 := by kernel_rfl
theorem tabN_zero : tabN (fun _ => 0) = zs8 := by
  unfold tabN zs8
  apply Array.ext'; simp [List.map_const']
/-- The world of forms. -/
structure FW (w wr : World) (f : Nat → Nat) : Prop where
  z : wr.heap[w.heap.size]? = some (.cells zs8 133)
  t : wr.heap[w.heap.size + 1]? = some (.cells (tabN f) 133)
  sp : Ss 3 spCells wr (some ⟨w.heap.size + 2, 0, none⟩) 38 spansL
  b : Below w.heap.size w wr
theorem FW.below {w wr w' : World} {f : Nat → Nat} (h : FW w wr f) (hb : Below wr.heap.size wr w') : FW w w' f :=
  ⟨by rw [hb.block _ (Array.getElem?_eq_some_iff.1 h.z).1]; exact h.z, by rw [hb.block _ (Array.getElem?_eq_some_iff.1 h.t).1]; exact h.t, h.sp.below hb, h.b.trans (hb.mono h.b.size)⟩
theorem FW.set {w wr : World} {f : Nat → Nat} (h : FW w wr f) (j x : Nat) : FW w (wr.setCell ⟨w.heap.size + 1, j, none⟩ (.int .u8 (x : Nat))) (updF f j x) := by
  refine ⟨by rw [heap_setX (by omega)]; exact h.z, by rw [← tabN_set]; exact heap_setO h.t j _, ⟨h.sp.1, fun hn => ?_⟩, h.b.setCell (by show w.heap.size ≤ w.heap.size + 1; omega) _⟩
  obtain ⟨b, off, ha, hlt, hc⟩ := h.sp.2 hn
  refine ⟨b, off, ha, by rw [size_setX]; exact hlt, fun i hi k hk => ?_⟩
  rw [← hc i hi k hk]
  simp only [Option.some.injEq, Addr.mk.injEq, and_true] at ha
  unfold World.cell?
  rw [heap_setX (by show b ≠ _; omega)]
theorem FW.cell {w wr : World} {f : Nat → Nat} (h : FW w wr f) (j : Nat) (hj : j < 256) : wr.cell? ⟨w.heap.size + 1, j, none⟩ = some (.int .u8 (f j : Nat)) ∧ wr.frozen? ⟨w.heap.size + 1, j, none⟩ = false := by
  refine ⟨by rw [cell_of_row wr _ j _ _ _ h.t]; exact tabN_at f j hj, ?_⟩
  unfold World.frozen?
  rw [h.t]
  simp
/-- Three cells alone in a block. -/
structure SBox (w : World) (g : Nat) (x y z : Nat) : Prop where
  c0 : w.cell? ⟨g, 0, none⟩ = some (.int .u8 (x : Nat))
  c1 : w.cell? ⟨g, 1, none⟩ = some (.int .u8 (y : Nat))
  c2 : w.cell? ⟨g, 2, none⟩ = some (.int .i64 (z : Nat))
theorem SBox.new (w : World) (x y z : Nat) (t : TypeId) : SBox (w.alloc (.cells #[.int .u8 (x : Nat), .int .u8 (y : Nat), .int .i64 (z : Nat)] t)) w.heap.size x y z :=
  ⟨by rw [cell_of_row _ _ 0 _ _ _ (heap_alloc_last w _)]; rfl, by rw [cell_of_row _ _ 1 _ _ _ (heap_alloc_last w _)]; rfl, by rw [cell_of_row _ _ 2 _ _ _ (heap_alloc_last w _)]; rfl⟩
theorem SBox.set {w : World} {g h : Nat} {x y z : Nat} (k : SBox w g x y z) (hne : g ≠ h) (o : Nat) (v : Value) : SBox (w.setCell ⟨h, o, none⟩ v) g x y z := by
  have key : ∀ i, (w.setCell ⟨h, o, none⟩ v).cell? ⟨g, i, none⟩ = w.cell? ⟨g, i, none⟩ := fun i => by unfold World.cell?; rw [heap_setX hne]
  exact ⟨by rw [key]; exact k.c0, by rw [key]; exact k.c1, by rw [key]; exact k.c2⟩
def FormsRet (w : World) (e : Ending) (w' : World) : Prop := e = .returned (.agg (tabN formN)) ∧ Below w.heap.size w w'
set_option maxRecDepth 100000 in
set_option maxHeartbeats 4000000 in
theorem forms_any (w : World) : Calls Try.prog 78 #[] w (FormsRet w) := by
  have hz := zero8
  go_enter Try.func78, Try.ntmps78
  go_wp2_with fail
  clear hz
  refine (spans_any _).mono ?_
  rintro e w1 ⟨rfl, hsp, hb1, hz1⟩
  have hsz : ((w.alloc (.cells zs8 133)).alloc (.cells zs8 133)).heap.size = w.heap.size + 2 := by simp
  rw [hsz] at hsp
  have HF := Lib.hid (show FW w w1 (formK 0) from ⟨by
      rw [hb1.block _ (by simp; omega), Below.heap_alloc _ _ _ (by simp)]; exact heap_alloc_last w _, by
      rw [hb1.block _ (by simp)]
      have := heap_alloc_last (w.alloc (.cells zs8 133)) (.cells zs8 133)
      rw [show (w.alloc (.cells zs8 133)).heap.size = w.heap.size + 1 by simp] at this
      rw [show formK 0 = (fun _ => 0) from rfl, tabN_zero]; exact this, hsp, (((Below.refl _ _).alloc (Nat.le_refl _) _).alloc (by simp) _).trans (hb1.mono (by simp; omega))⟩)
  clear hsp hb1 hz1 hsz
  go_wp2_with fail
  go_loopg [7] 38 (fun gn i wr => ∃ k : Nat, k ≤ 38 ∧ gn = 38 - k ∧ i = .int .i64 k ∧ Hid (FW w wr (formK k)))
  case atStart => exact ⟨0, by omega, rfl, by go_num, HF⟩
  case round =>
    obtain ⟨k, hk, rfl, rfl, HF⟩ := hrel
    by_cases hlt : k < 38
    · obtain ⟨b, off, ha, _, hc⟩ := HF.out.sp.2 (by decide)
      simp only [Option.some.injEq, Addr.mk.injEq, and_true] at ha
      obtain ⟨rfl, rfl⟩ := ha
      have hkl : k < spansL.length := hlt
      have q0 := hc k hkl 0 (by decide)
      have q1 := hc k hkl 1 (by decide)
      have q2 := hc k hkl 2 (by decide)
      have hok := spansL_ok spansL[k] (List.getElem_mem hkl)
      have HN := Lib.hid (formK_succ k hkl)
      clear hc
      generalize hs : spansL[k] = s at *
      obtain ⟨x, y, z⟩ := s
      simp only at hok
      have r0 : wr.cell? ⟨w.heap.size + 1 + 1, k * 3, none⟩ = some (.int .u8 (x : Nat)) := by rw [Nat.zero_add, Nat.add_zero] at q0; exact q0
      have r1 : wr.cell? ⟨w.heap.size + 1 + 1, k * 3 + 1, none⟩ = some (.int .u8 (y : Nat)) := by rw [Nat.zero_add] at q1; exact q1
      have r2 : wr.cell? ⟨w.heap.size + 1 + 1, k * 3 + 2, none⟩ = some (.int .i64 (z : Nat)) := by rw [Nat.zero_add] at q2; exact q2
      clear q0 q1 q2
      clear hs
      have k1 : (k : Int) < 38 := by omega
      go_upto_region 5 with fail
      have HS := Lib.hid (SBox.new wr x y z 138)
      have HFa := Lib.hid (HF.out.below ((Below.refl _ _).alloc (Nat.le_refl _) (.cells #[.int .u8 (x : Nat), .int .u8 (y : Nat), .int .i64 (z : Nat)] 138)))
      have hg : w.heap.size + 1 < wr.heap.size := by have := (Array.getElem?_eq_some_iff.1 HF.out.t).1; omega
      clear r0 r1 r2
      generalize hW : wr.alloc (.cells #[.int .u8 (x : Nat), .int .u8 (y : Nat), .int .i64 (z : Nat)] 138) = W at *
      clear hW
      obtain ⟨p0, p1, p2⟩ := HS.out
      go_wp2_with fail
      clear p0 p1 p2
      generalize wr.heap.size = g at *
      go_loopg [4] (y + 1 - x) (fun gn i wx => ∃ j : Nat, x ≤ j ∧ j ≤ y + 1 ∧ gn = y + 1 - j ∧ i = .int .i64 j ∧ Hid (FW w wx (partF (formK k) x j z)) ∧ Hid (SBox wx g x y z))
      case atStart => exact ⟨x, by omega, by omega, rfl, by go_num, Lib.hid (by rw [partF_start]; exact HFa.out), HS⟩
      case round =>
        obtain ⟨j, hj1, hj2, rfl, rfl, HW, HX⟩ := hrel
        obtain ⟨p0, p1, p2⟩ := HX.out
        by_cases hjt : j < y + 1
        · have e1 : decide ((j : Int) ≤ y) = true := by simp; omega
          obtain ⟨c0, f0⟩ := HW.out.cell j (by omega)
          have j1 : (j : Int) < 256 := by omega
          have z1 : (z : Int) < 256 := by omega
          go_wp2_with fail
          go_roundg (y + 1 - (j + 1))
          case measure => omega
          case rel => exact ⟨j + 1, by omega, by omega, rfl, by go_num, Lib.hid (by rw [← partF_next _ _ _ _ hj1]; exact HW.out.set j z), Lib.hid (HX.out.set (by omega) j _)⟩
        · have e1 : decide ((j : Int) ≤ y) = false := by simp; omega
          obtain rfl : j = y + 1 := by omega
          go_wp2_with fail
          go_roundg (38 - (k + 1))
          case measure => omega
          case rel => exact ⟨k + 1, by omega, rfl, by go_num, Lib.hid (by rw [HN.out, ← partF_end]; exact HW.out)⟩
    · obtain rfl : k = 38 := by omega
      have H := Lib.hid HF.out.t
      have H0 := Lib.hid HF.out.z
      go_wp2_with (first
        | (refine wpList_load_row rfl _ _ rfl _ rfl _ _ _ _ H.out Try.underlying133 rfl (by rw [tabN_size]; exact infoTab) ?_)
        | (refine wpList_store_row rfl _ _ _ rfl _ _ rfl rfl _ _ H0.out (by rw [tabN_size]; exact infoTab) (by simp [tabN_size, zs8]) (tabN_one _) ?_))
      refine bodyPost_ret (v := .agg (tabN formN)) (results_cell_row rfl _ _ w.heap.size _ _ _ _ rfl (setRow_heap _ _ _ _ _ _ H0.out) Try.underlying133 rfl (by rw [tabN_size]; exact infoTab)) rfl ⟨rfl, below_setRow HF.out.b (Nat.le_refl _) _⟩
end Go.Proofs.Ytbcldlbmbdfejaa
