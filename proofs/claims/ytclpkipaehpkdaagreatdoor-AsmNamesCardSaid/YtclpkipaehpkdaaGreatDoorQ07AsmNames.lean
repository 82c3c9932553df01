/- asm: own texts, merged (wip/merge2.py). No condition. -/
import Derived.Test.YtclpkipaehpkdaaGreatDoorQ06AsmNames
import Derived.Test.YtclpkipaehpkdaaGreatDoorQ03AsmNames
import Derived.Test.YtclpkipaehpkdaaGreatDoorQ04AsmNames
import Derived.Test.YtclpkipaehpkdaaGreatDoorQ00AsmNames
import Derived.Test.YtclpkipaehpkdaaGreatDoorQ01AsmNames
import Derived.Deep.LoopGhost
import Derived.Deep.DeepCutAuto
import Derived.Maps.OwnSet
set_option linter.unusedVariables false
set_option linter.unusedSimpArgs false
namespace Go.Proofs.YtclpkipaehpkdaaGreatDoor
open Go.ChangeShapes Go.WideShapes Go.ChangeAt Go.RowKit
def encZ (v : Int) : Value := .int .i64 v
theorem Ss.keep1 {α : Type} {z : Nat} {enc : α → List Value} {g : Nat} {w w' : World} {x : Option Addr} {n : Nat} {xs : List α} (hs : Ss z enc w x n xs) (h : Keep1 g w w') (h1 : Off1 x n g) : Ss z enc w' x n xs := by
  refine ⟨hs.1, fun hn => ?_⟩
  obtain ⟨b, off, ha, hlt, hc⟩ := hs.2 hn
  refine ⟨b, off, ha, Nat.lt_of_lt_of_le hlt h.size, fun i hi j hj => ?_⟩
  rw [← hc i hi j hj]
  unfold World.cell?
  rw [h.block b hlt (h1 hn b off ha)]
theorem Off1.oldS {α : Type} {z : Nat} {enc : α → List Value} {w : World} {x : Option Addr} {n g : Nat} {xs : List α} (h : Ss z enc w x n xs) (hg : w.heap.size ≤ g) : Off1 x n g := by
  intro hn b off hx
  obtain ⟨b', off', hx', hlt, _⟩ := h.2 hn
  rw [hx] at hx'
  simp only [Option.some.injEq, Addr.mk.injEq] at hx'
  omega
structure LkS (w : World) (g : Nat) (a : Option Addr) (n cap : Nat) (L : List KV) (odd : Bool) : Prop where
  k : Blk2 w g (.slice a n cap) (.bool odd) 106
  ks : Ks w a n L
  sm : n ≤ 65536
  off : Off1 a n g
theorem LkS.below {w w' : World} {g : Nat} {a : Option Addr} {n cap : Nat} {L : List KV} {odd : Bool} (h : LkS w g a n cap L odd) (hb : Below w.heap.size w w') : LkS w' g a n cap L odd := ⟨h.k.below hb, h.ks.below hb, h.sm, h.off⟩
theorem LkS.lt {w : World} {g : Nat} {a : Option Addr} {n cap : Nat} {L : List KV} {odd : Bool} (h : LkS w g a n cap L odd) : g < w.heap.size := h.k.box.lt
def LkRet (g : Nat) (a : Option Addr) (n cap : Nat) (L : List KV) (odd : Bool) (w : World) (e : Ending) (w' : World) : Prop := e = .returned (.tuple #[]) ∧ LkS w' g a n cap L odd ∧ Keep1 g w w'
set_option maxRecDepth 100000 in
set_option maxHeartbeats 4000000 in
theorem need_any (w : World) (g : Nat) (a : Option Addr) (n cap : Nat) (L : List KV) (odd ok : Bool) (h : LkS w g a n cap L odd) :
    Calls Tryz.prog 45 #[.pointer (some ⟨g, 0, none⟩), .bool ok] w (LkRet g a n cap L (odd || !ok) w) := by
  have H := Lib.hid h
  obtain ⟨c0, c1, f0, f1, lt⟩ := h.k.box
  clear h
  cases odd
  · go_enter Tryz.func45, Tryz.ntmps45
    go_wp2_with fail
    go_end0
    exact ⟨rfl, ⟨H.out.k.set1, Ss.keep1 H.out.ks ((Keep1.refl g w).set 1 _) H.out.off, H.out.sm, H.out.off⟩, (Keep1.refl g w).set 1 _⟩
  · go_enter Tryz.func45, Tryz.ntmps45
    go_wp2_with fail
    go_end0
    exact ⟨rfl, ⟨H.out.k.set1, Ss.keep1 H.out.ks ((Keep1.refl g w).set 1 _) H.out.off, H.out.sm, H.out.off⟩, (Keep1.refl g w).set 1 _⟩
set_option maxRecDepth 100000 in
set_option maxHeartbeats 4000000 in
theorem lclass_any (w : World) (g : Nat) (a : Option Addr) (n cap : Nat) (L : List KV) (odd : Bool) (i : Int) (h : LkS w g a n cap L odd) :
    Calls Tryz.prog 44 #[.pointer (some ⟨g, 0, none⟩), .int .i64 i] w (LkRet g a n cap L (odd || !clsOk L i) w) := by
  have HC := Lib.hid (Class_any w a n cap L i h.ks h.sm)
  have HN := Lib.hid (need_any w g a n cap L odd (clsOk L i) h)
  unfold ClassRet at HC
  unfold clsOk at HN ⊢
  generalize (classAt L i).1 = s1 at *
  generalize (classAt L i).2 = b1 at *
  obtain ⟨c0, c1, f0, f1, lt⟩ := h.k.box
  clear h
  go_enter Tryz.func44, Tryz.ntmps44
  go_wp2_with fail
  refine HC.out.mono ?_
  rintro e w' ⟨rfl, rfl⟩
  go_wp2_with fail
  refine HN.out.mono ?_
  rintro e w' ⟨rfl, h1, h2⟩
  go_wp2_with fail
  go_end0
  exact ⟨rfl, h1, h2⟩
set_option maxRecDepth 100000 in
set_option maxHeartbeats 4000000 in
theorem ltext_any (w : World) (g : Nat) (a : Option Addr) (n cap : Nat) (L : List KV) (odd : Bool) (i : Int) (h : LkS w g a n cap L odd) :
    Calls Tryz.prog 89 #[.pointer (some ⟨g, 0, none⟩), .int .i64 i] w (LkRet g a n cap L (odd || !isT L i 1) w) := by
  have HC := Lib.hid (Text_any w a n cap L i h.ks h.sm)
  have HN := Lib.hid (need_any w g a n cap L odd (isT L i 1) h)
  unfold TextRet at HC
  generalize textAt L i = s1 at *
  generalize isT L i 1 = b1 at *
  obtain ⟨c0, c1, f0, f1, lt⟩ := h.k.box
  clear h
  go_enter Tryz.func89, Tryz.ntmps89
  go_wp2_with fail
  refine HC.out.mono ?_
  rintro e w' ⟨rfl, rfl⟩
  go_wp2_with fail
  refine HN.out.mono ?_
  rintro e w' ⟨rfl, h1, h2⟩
  go_wp2_with fail
  go_end0
  exact ⟨rfl, h1, h2⟩
end Go.Proofs.YtclpkipaehpkdaaGreatDoor

namespace Go.Proofs.YtclpkipaehpkdaaGreatDoor
open Go.ChangeShapes Go.WideShapes Go.ChangeAt Go.RowKit

def spCells (s : Nat × Nat × Nat) : List Value := [.int .u8 (s.1 : Nat), .int .u8 (s.2.1 : Nat), .int .i64 (s.2.2 : Nat)]
theorem spCells_length (s : Nat × Nat × Nat) : (spCells s).length = 3 := rfl
def spansL : List (Nat × Nat × Nat) := [(0, 10, 1), (16, 16, 3), (17, 17, 4), (18, 18, 5), (20, 20, 6), (21, 22, 2), (25, 25, 2), (46, 46, 1), (50, 51, 1), (54, 55, 2), (58, 58, 2), (79, 79, 1), (83, 84, 1), (87, 87, 1), (89, 89, 1), (95, 97, 1), (100, 101, 1), (104, 105, 1), (108, 109, 1), (112, 113, 1), (116, 117, 1), (120, 131, 1), (132, 132, 8), (133, 133, 1), (136, 136, 1), (145, 145, 1), (148, 148, 1), (153, 167, 7), (172, 173, 1), (176, 177, 1), (178, 182, 6), (184, 184, 6), (187, 187, 6), (188, 188, 9), (189, 189, 6), (190, 191, 1), (192, 193, 6), (198, 199, 7)]
theorem spansL_ok : ∀ s ∈ spansL, (s : Nat × Nat × Nat).1 ≤ s.2.1 ∧ s.2.1 ≤ 255 ∧ s.2.2 ≤ 9 := by decide
def spanF (f : Nat → Nat) (s : Nat × Nat × Nat) : Nat → Nat := fun i => if s.1 ≤ i ∧ i ≤ s.2.1 then s.2.2 else f i
def formK (k : Nat) : Nat → Nat := (spansL.take k).foldl spanF (fun _ => 0)
def formN (op : Nat) : Nat := formK 38 op
theorem formK_succ (k : Nat) (h : k < spansL.length) : formK (k + 1) = spanF (formK k) spansL[k] := by
  unfold formK
  rw [List.take_succ_eq_append_getElem h, List.foldl_append]
  rfl
theorem spanF_le (f : Nat → Nat) (s : Nat × Nat × Nat) (h : s.2.2 ≤ 9) (hf : ∀ i, f i ≤ 9) (i : Nat) : spanF f s i ≤ 9 := by
  unfold spanF
  split
  · exact h
  · exact hf i
theorem fold_le (l : List (Nat × Nat × Nat)) (hl : ∀ s ∈ l, (s : Nat × Nat × Nat).2.2 ≤ 9) (f : Nat → Nat) (hf : ∀ i, f i ≤ 9) (i : Nat) : l.foldl spanF f i ≤ 9 := by
  induction l generalizing f with
  | nil => exact hf i
  | cons s l ih => exact ih (fun x hx => hl x (List.mem_cons_of_mem _ hx)) _ (fun j => spanF_le f s (hl s List.mem_cons_self) hf j)
theorem formN_le (op : Nat) : formN op ≤ 9 := by
  unfold formN formK
  exact fold_le _ (fun s hs => (spansL_ok s (List.mem_of_mem_take hs)).2.2) _ (fun _ => Nat.zero_le _) op
def sizeN (f : Nat) : Nat := [0, 1, 2, 2, 3, 2, 3, 3, 3, 2].getD f 0
def tabN (f : Nat → Nat) : Array Value := ((List.range 256).map fun i => Value.int .u8 (f i : Nat)).toArray
theorem tabN_size (f : Nat → Nat) : (tabN f).size = 256 := by simp [tabN]
theorem tabN_at (f : Nat → Nat) (j : Nat) (h : j < 256) : (tabN f)[j]? = some (.int .u8 (f j : Nat)) := by simp [tabN, h]
def updF (f : Nat → Nat) (j x : Nat) : Nat → Nat := fun i => if i = j then x else f i
theorem tabN_set (f : Nat → Nat) (j x : Nat) : (tabN f).setIfInBounds j (.int .u8 (x : Nat)) = tabN (updF f j x) := by
  apply Array.ext_getElem?
  intro i
  rw [Array.getElem?_setIfInBounds]
  by_cases hi : i < 256
  · rw [tabN_at _ _ hi, tabN_at _ _ hi]
    unfold updF
    by_cases hk : j = i
    · subst hk; simp [tabN_size, hi]
    · simp only [hk, if_false]
      rw [if_neg (Ne.symm hk)]
  · have h1 : (tabN f)[i]? = none := by simp [tabN_size]; omega
    have h2 : (tabN (updF f j x))[i]? = none := by simp [tabN_size]; omega
    rw [h1, h2]
    split
    · simp [tabN_size]; omega
    · rfl
theorem tabN_one (f : Nat → Nat) : (tabN f).all (·.oneCell') = true := by
  simp [tabN, Array.all_eq_true]; intro i hi; rfl
def partF (f : Nat → Nat) (a j x : Nat) : Nat → Nat := fun i => if a ≤ i ∧ i < j then x else f i
theorem partF_start (f : Nat → Nat) (a x : Nat) : partF f a a x = f := by
  funext i; unfold partF; rw [if_neg (by omega)]
theorem partF_next (f : Nat → Nat) (a j x : Nat) (h : a ≤ j) : updF (partF f a j x) j x = partF f a (j + 1) x := by
  funext i
  unfold updF partF
  by_cases h1 : i = j
  · rw [if_pos h1, if_pos (by omega)]
  · rw [if_neg h1]
    by_cases h2 : a ≤ i ∧ i < j
    · rw [if_pos h2, if_pos (by omega)]
    · rw [if_neg h2, if_neg (by omega)]
theorem partF_end (f : Nat → Nat) (a b x : Nat) : partF f a (b + 1) x = spanF f (a, b, x) := by
  funext i
  unfold partF spanF
  by_cases h : a ≤ i ∧ i ≤ b
  · rw [if_pos (by omega), if_pos h]
  · rw [if_neg (by omega), if_neg h]
end Go.Proofs.YtclpkipaehpkdaaGreatDoor

namespace Go.Proofs.YtclpkipaehpkdaaGreatDoor
open Go.ChangeShapes Go.WideShapes Go.ChangeAt Go.RowKit
theorem Ss.lit {α : Type} {z : Nat} {enc : α → List Value} (hz : ∀ x, (enc x).length = z) {w : World} {g n : Nat} {xs : List α} {C : Array Value} {e : TypeId} {fr : Nat × Nat} (hg : w.heap[g]? = some (.cells C e fr)) (hC : C = (xs.flatMap enc).toArray) (hn : xs.length = n) : Ss z enc w (some ⟨g, 0, none⟩) n xs := by
  subst hC
  refine ⟨hn, fun _ => ⟨g, 0, rfl, (Array.getElem?_eq_some_iff.1 hg).1, fun i hi j hj => ?_⟩⟩
  rw [cell_of_row w g (0 + i * z + j) _ e fr hg, Nat.zero_add]
  simp only [List.getElem?_toArray]
  exact flat_at hz xs i hi j hj
def SpansRet (w : World) (e : Ending) (w' : World) : Prop := e = .returned (.slice (some ⟨w.heap.size, 0, none⟩) 38 38) ∧ Ss 3 spCells w' (some ⟨w.heap.size, 0, none⟩) 38 spansL ∧ Below w.heap.size w w' ∧ w'.heap.size = w.heap.size + 1
set_option maxRecDepth 100000 in
set_option maxHeartbeats 4000000 in
theorem spans_any (w : World) : Calls Tryz.prog 146 #[] w (SpansRet w) := by
  go_enter Tryz.func146, Tryz.ntmps146
  go_wp2_with fail
  go_ret
  exact ⟨rfl, Ss.lit spCells_length (heap_alloc_last w _) rfl rfl, (Below.refl _ _).alloc (Nat.le_refl _) _, by simp⟩
theorem heap_setO {w : World} {g : Nat} {cs : Array Value} {t : TypeId} {fr : Nat × Nat} (h : w.heap[g]? = some (.cells cs t fr)) (o : Nat) (v : Value) : (w.setCell ⟨g, o, none⟩ v).heap[g]? = some (.cells (cs.setIfInBounds o v) t fr) := by
  unfold World.setCell
  simp [Array.getElem?_modify, h]
theorem heap_setX {w : World} {g h : Nat} (hne : h ≠ g) (o : Nat) (v : Value) : (w.setCell ⟨g, o, none⟩ v).heap[h]? = w.heap[h]? := by
  unfold World.setCell
  simp [Array.getElem?_modify, Ne.symm hne]
theorem size_setX {w : World} {g : Nat} (o : Nat) (v : Value) : (w.setCell ⟨g, o, none⟩ v).heap.size = w.heap.size := by
  unfold World.setCell
  simp
def zs8 : Array Value := Array.replicate 256 (.int .u8 0)
theorem zero8 (w : World) : (zeroValue 164).run Tryz.prog w = .ok (.agg zs8) w := by kernel_rfl
theorem infoTab : (Tryz.prog.info? 164).map (·.size) = some 256 := by kernel_rfl
theorem tabN_zero : tabN (fun _ => 0) = zs8 := by
  unfold tabN zs8
  apply Array.ext'; simp [List.map_const']
structure FW (w wr : World) (f : Nat → Nat) : Prop where
  z : wr.heap[w.heap.size]? = some (.cells zs8 164)
  t : wr.heap[w.heap.size + 1]? = some (.cells (tabN f) 164)
  sp : Ss 3 spCells wr (some ⟨w.heap.size + 2, 0, none⟩) 38 spansL
  b : Below w.heap.size w wr
theorem FW.below {w wr w' : World} {f : Nat → Nat} (h : FW w wr f) (hb : Below wr.heap.size wr w') : FW w w' f :=
  ⟨by rw [hb.block _ (Array.getElem?_eq_some_iff.1 h.z).1]; exact h.z, by rw [hb.block _ (Array.getElem?_eq_some_iff.1 h.t).1]; exact h.t, h.sp.below hb, h.b.trans (hb.mono h.b.size)⟩
theorem FW.set {w wr : World} {f : Nat → Nat} (h : FW w wr f) (j x : Nat) : FW w (wr.setCell ⟨w.heap.size + 1, j, none⟩ (.int .u8 (x : Nat))) (updF f j x) := by
  refine ⟨by rw [heap_setX (by omega)]; exact h.z, by rw [← tabN_set]; exact heap_setO h.t j _, ⟨h.sp.1, fun hn => ?_⟩, h.b.setCell (by show w.heap.size ≤ w.heap.size + 1; omega) _⟩
  obtain ⟨b, off, ha, hlt, hc⟩ := h.sp.2 hn
  refine ⟨b, off, ha, by rw [size_setX]; exact hlt, fun i hi k hk => ?_⟩
  rw [← hc i hi k hk]
  simp only [Option.some.injEq, Addr.mk.injEq, and_true] at ha
  unfold World.cell?
  rw [heap_setX (by show b ≠ _; omega)]
theorem FW.cell {w wr : World} {f : Nat → Nat} (h : FW w wr f) (j : Nat) (hj : j < 256) : wr.cell? ⟨w.heap.size + 1, j, none⟩ = some (.int .u8 (f j : Nat)) ∧ wr.frozen? ⟨w.heap.size + 1, j, none⟩ = false := by
  refine ⟨by rw [cell_of_row wr _ j _ _ _ h.t]; exact tabN_at f j hj, ?_⟩
  unfold World.frozen?
  rw [h.t]
  simp
structure SBox (w : World) (g : Nat) (x y z : Nat) : Prop where
  c0 : w.cell? ⟨g, 0, none⟩ = some (.int .u8 (x : Nat))
  c1 : w.cell? ⟨g, 1, none⟩ = some (.int .u8 (y : Nat))
  c2 : w.cell? ⟨g, 2, none⟩ = some (.int .i64 (z : Nat))
theorem SBox.new (w : World) (x y z : Nat) (t : TypeId) : SBox (w.alloc (.cells #[.int .u8 (x : Nat), .int .u8 (y : Nat), .int .i64 (z : Nat)] t)) w.heap.size x y z :=
  ⟨by rw [cell_of_row _ _ 0 _ _ _ (heap_alloc_last w _)]; rfl, by rw [cell_of_row _ _ 1 _ _ _ (heap_alloc_last w _)]; rfl, by rw [cell_of_row _ _ 2 _ _ _ (heap_alloc_last w _)]; rfl⟩
theorem SBox.set {w : World} {g h : Nat} {x y z : Nat} (k : SBox w g x y z) (hne : g ≠ h) (o : Nat) (v : Value) : SBox (w.setCell ⟨h, o, none⟩ v) g x y z := by
  have key : ∀ i, (w.setCell ⟨h, o, none⟩ v).cell? ⟨g, i, none⟩ = w.cell? ⟨g, i, none⟩ := fun i => by unfold World.cell?; rw [heap_setX hne]
  exact ⟨by rw [key]; exact k.c0, by rw [key]; exact k.c1, by rw [key]; exact k.c2⟩
def FormsRet (w : World) (e : Ending) (w' : World) : Prop := e = .returned (.agg (tabN formN)) ∧ Below w.heap.size w w'
set_option maxRecDepth 100000 in
set_option maxHeartbeats 4000000 in
theorem forms_any (w : World) : Calls Tryz.prog 98 #[] w (FormsRet w) := by
  have hz := zero8
  go_enter Tryz.func98, Tryz.ntmps98
  go_wp2_with fail
  clear hz
  refine (spans_any _).mono ?_
  rintro e w1 ⟨rfl, hsp, hb1, hz1⟩
  have hsz : ((w.alloc (.cells zs8 164)).alloc (.cells zs8 164)).heap.size = w.heap.size + 2 := by simp
  rw [hsz] at hsp
  have HF := Lib.hid (show FW w w1 (formK 0) from ⟨by
      rw [hb1.block _ (by simp; omega), Below.heap_alloc _ _ _ (by simp)]; exact heap_alloc_last w _, by
      rw [hb1.block _ (by simp)]
      have := heap_alloc_last (w.alloc (.cells zs8 164)) (.cells zs8 164)
      rw [show (w.alloc (.cells zs8 164)).heap.size = w.heap.size + 1 by simp] at this
      rw [show formK 0 = (fun _ => 0) from rfl, tabN_zero]; exact this, hsp, (((Below.refl _ _).alloc (Nat.le_refl _) _).alloc (by simp) _).trans (hb1.mono (by simp; omega))⟩)
  clear hsp hb1 hz1 hsz
  go_wp2_with fail
  go_loopg [7] 38 (fun gn i wr => ∃ k : Nat, k ≤ 38 ∧ gn = 38 - k ∧ i = .int .i64 k ∧ Hid (FW w wr (formK k)))
  case atStart => exact ⟨0, by omega, rfl, by go_num, HF⟩
  case round =>
    obtain ⟨k, hk, rfl, rfl, HF⟩ := hrel
    by_cases hlt : k < 38
    · obtain ⟨b, off, ha, _, hc⟩ := HF.out.sp.2 (by decide)
      simp only [Option.some.injEq, Addr.mk.injEq, and_true] at ha
      obtain ⟨rfl, rfl⟩ := ha
      have hkl : k < spansL.length := hlt
      have q0 := hc k hkl 0 (by decide)
      have q1 := hc k hkl 1 (by decide)
      have q2 := hc k hkl 2 (by decide)
      have hok := spansL_ok spansL[k] (List.getElem_mem hkl)
      have HN := Lib.hid (formK_succ k hkl)
      clear hc
      generalize hs : spansL[k] = s at *
      obtain ⟨x, y, z⟩ := s
      simp only at hok
      have r0 : wr.cell? ⟨w.heap.size + 1 + 1, k * 3, none⟩ = some (.int .u8 (x : Nat)) := by rw [Nat.zero_add, Nat.add_zero] at q0; exact q0
      have r1 : wr.cell? ⟨w.heap.size + 1 + 1, k * 3 + 1, none⟩ = some (.int .u8 (y : Nat)) := by rw [Nat.zero_add] at q1; exact q1
      have r2 : wr.cell? ⟨w.heap.size + 1 + 1, k * 3 + 2, none⟩ = some (.int .i64 (z : Nat)) := by rw [Nat.zero_add] at q2; exact q2
      clear q0 q1 q2
      clear hs
      have k1 : (k : Int) < 38 := by omega
      go_upto_region 5 with fail
      have HS := Lib.hid (SBox.new wr x y z 208)
      have HFa := Lib.hid (HF.out.below ((Below.refl _ _).alloc (Nat.le_refl _) (.cells #[.int .u8 (x : Nat), .int .u8 (y : Nat), .int .i64 (z : Nat)] 208)))
      have hg : w.heap.size + 1 < wr.heap.size := by have := (Array.getElem?_eq_some_iff.1 HF.out.t).1; omega
      clear r0 r1 r2
      generalize hW : wr.alloc (.cells #[.int .u8 (x : Nat), .int .u8 (y : Nat), .int .i64 (z : Nat)] 208) = W at *
      clear hW
      obtain ⟨p0, p1, p2⟩ := HS.out
      go_wp2_with fail
      clear p0 p1 p2
      generalize wr.heap.size = g at *
      go_loopg [4] (y + 1 - x) (fun gn i wx => ∃ j : Nat, x ≤ j ∧ j ≤ y + 1 ∧ gn = y + 1 - j ∧ i = .int .i64 j ∧ Hid (FW w wx (partF (formK k) x j z)) ∧ Hid (SBox wx g x y z))
      case atStart => exact ⟨x, by omega, by omega, rfl, by go_num, Lib.hid (by rw [partF_start]; exact HFa.out), HS⟩
      case round =>
        obtain ⟨j, hj1, hj2, rfl, rfl, HW, HX⟩ := hrel
        obtain ⟨p0, p1, p2⟩ := HX.out
        by_cases hjt : j < y + 1
        · have e1 : decide ((j : Int) ≤ y) = true := by simp; omega
          obtain ⟨c0, f0⟩ := HW.out.cell j (by omega)
          have j1 : (j : Int) < 256 := by omega
          have z1 : (z : Int) < 256 := by omega
          go_wp2_with fail
          go_roundg (y + 1 - (j + 1))
          case measure => omega
          case rel => exact ⟨j + 1, by omega, by omega, rfl, by go_num, Lib.hid (by rw [← partF_next _ _ _ _ hj1]; exact HW.out.set j z), Lib.hid (HX.out.set (by omega) j _)⟩
        · have e1 : decide ((j : Int) ≤ y) = false := by simp; omega
          obtain rfl : j = y + 1 := by omega
          go_wp2_with fail
          go_roundg (38 - (k + 1))
          case measure => omega
          case rel => exact ⟨k + 1, by omega, rfl, by go_num, Lib.hid (by rw [HN.out, ← partF_end]; exact HW.out)⟩
    · obtain rfl : k = 38 := by omega
      have H := Lib.hid HF.out.t
      have H0 := Lib.hid HF.out.z
      go_wp2_with (first
        | (refine wpList_load_row rfl _ _ rfl _ rfl _ _ _ _ H.out Tryz.underlying164 rfl (by rw [tabN_size]; exact infoTab) ?_)
        | (refine wpList_store_row rfl _ _ _ rfl _ _ rfl rfl _ _ H0.out (by rw [tabN_size]; exact infoTab) (by simp [tabN_size, zs8]) (tabN_one _) ?_))
      refine bodyPost_ret (v := .agg (tabN formN)) (results_cell_row rfl _ _ w.heap.size _ _ _ _ rfl (setRow_heap _ _ _ _ _ _ H0.out) Tryz.underlying164 rfl (by rw [tabN_size]; exact infoTab)) rfl ⟨rfl, below_setRow HF.out.b (Nat.le_refl _) _⟩
end Go.Proofs.YtclpkipaehpkdaaGreatDoor

namespace Go.Proofs.YtclpkipaehpkdaaGreatDoor
open Go.ChangeShapes Go.WideShapes Go.ChangeAt Go.RowKit
theorem run_index_arr {t e : TypeId} {len : Nat} (ht : Tryz.prog.underlying t = some (.array len e)) (hs : ∀ w, (sizeOf e).run Tryz.prog w = .ok 1 w) (hp : ∀ w (cs : Array Value) (i : Nat) (v : Value), cs[i]? = some v → (part e cs i).run Tryz.prog w = .ok v w) {cs : Array Value} {k : Nat} (hk : k < len) {v : Value} (hx : cs[k]? = some v) (kd : IntKind) (w : World) :
    (Instr.index t (.agg cs) (.int kd k)).run Tryz.prog w = .ok v w := by
  have h2 : (0 : Int) ≤ (k : Int) ∧ (k : Int) < (len : Int) := ⟨by omega, by omega⟩
  simp [Instr.index, asIntOf, run_underlying ht, hk, hs, hp _ _ _ _ hx]
theorem size_u8 (w : World) : (sizeOf 5).run Tryz.prog w = .ok 1 w := by kernel_rfl
theorem part_plain {e : TypeId} {d : TypeDesc} (h1 : Tryz.prog.underlying e = some d) (h2 : (match d with | .struct _ | .array _ _ => false | _ => true) = true) (w : World) (cs : Array Value) (i : Nat) (v : Value) (h3 : cs[i]? = some v) : (part e cs i).run Tryz.prog w = .ok v w := by
  cases d <;> simp [part, isAgg, run_underlying h1, h3] at h2 ⊢
theorem idx_tab (w : World) (f : Nat → Nat) (k : Nat) (h : k < 256) (kd : IntKind) : (Instr.index 164 (.agg (tabN f)) (.int kd k)).run Tryz.prog w = .ok (.int .u8 (f k : Nat)) w :=
  run_index_arr Tryz.underlying164 size_u8 (part_plain Tryz.underlying5 rfl) h (tabN_at f k h) kd w
def QuietRet (v : Value) (w : World) (e : Ending) (w' : World) : Prop := e = .returned v ∧ Below w.heap.size w w'
set_option maxRecDepth 100000 in
set_option maxHeartbeats 4000000 in
theorem Form_any (w : World) (k : Nat) (hk : k < 256) : Calls Tryz.prog 102 #[.int .u8 (k : Nat)] w (QuietRet (.int .i64 (formN k : Nat)) w) := by
  have h9 := formN_le k
  go_enter Tryz.func102, Tryz.ntmps102
  go_wp2_with fail
  refine (forms_any _).mono ?_
  rintro e w1 ⟨rfl, hb1⟩
  have HB := Lib.hid hb1
  have hi := idx_tab w1 formN k hk .u8
  clear hb1
  generalize formN k = f at *
  go_wp2_with fail
  go_ret
  exact ⟨rfl, HB.out⟩
theorem sizeN_le (f : Nat) : sizeN f ≤ 3 := by
  unfold sizeN
  match f with
  | 0 | 1 | 2 | 3 | 4 | 5 | 6 | 7 | 8 | 9 => decide
  | n + 10 => simp
set_option maxRecDepth 100000 in
set_option maxHeartbeats 4000000 in
theorem size_any (w : World) (f : Nat) (hf : f ≤ 9) : Calls Tryz.prog 99 #[.int .i64 (f : Nat)] w fun e w' => e = .returned (.int .i64 (sizeN f : Nat)) ∧ w = w' := by
  have hi := fun (w : World) => run_index_arr (cs := #[.int .u8 0, .int .u8 1, .int .u8 2, .int .u8 2, .int .u8 3, .int .u8 2, .int .u8 3, .int .u8 3, .int .u8 3, .int .u8 2]) (v := .int .u8 (sizeN f : Nat)) (k := f) Tryz.underlying209 size_u8 (part_plain Tryz.underlying5 rfl) (by omega) (by
    match f, hf with
    | 0, _ | 1, _ | 2, _ | 3, _ | 4, _ | 5, _ | 6, _ | 7, _ | 8, _ | 9, _ => rfl
    | n + 10, h => omega) .i64 w
  have h3 := sizeN_le f
  generalize sizeN f = s at *
  go_enter Tryz.func99, Tryz.ntmps99
  go_wp2_with fail
  go_ret
  exact ⟨rfl, rfl⟩
set_option maxRecDepth 100000 in
set_option maxHeartbeats 4000000 in
theorem oLen_any (w : World) (k : Nat) (hk : k < 256) : Calls Tryz.prog 122 #[.int .u8 (k : Nat)] w (QuietRet (.int .i64 (sizeN (formN k) : Nat)) w) := by
  have h9 := formN_le k
  go_enter Tryz.func122, Tryz.ntmps122
  go_wp2_with fail
  refine (Form_any _ k hk).mono ?_
  rintro e w1 ⟨rfl, hb1⟩
  have HB := Lib.hid hb1
  clear hb1
  go_wp2_with fail
  refine (size_any _ _ h9).mono ?_
  rintro e w' ⟨rfl, rfl⟩
  go_wp2_with fail
  go_ret
  exact ⟨rfl, HB.out⟩
end Go.Proofs.YtclpkipaehpkdaaGreatDoor

namespace Go.Proofs.YtclpkipaehpkdaaGreatDoor
open Go.ChangeShapes Go.WideShapes Go.ChangeAt Go.RowKit
def U64 (n : Int) : Prop := 0 ≤ n ∧ n < 18446744073709551616
def signB (v n : Int) : Int := if n < 1 ∨ 8 < n then 0 else (v + 2 ^ (8 * n.toNat - 1)) % 2 ^ (8 * n.toNat) - 2 ^ (8 * n.toNat - 1)
theorem signB_odd (v n : Int) (h : n < 1 ∨ 8 < n) : signB v n = 0 := by unfold signB; rw [if_pos h]
set_option maxRecDepth 100000 in
set_option maxHeartbeats 2000000 in
theorem Sign_any (w : World) (v n : Int) (hv : U64 v) (hn : IntR n) : Calls Tryz.prog 148 #[.int .u64 v, .int .i64 n] w fun e w' => e = .returned (.int .i64 (signB v n)) ∧ w = w' := by
  obtain ⟨v1, v2⟩ := hv
  by_cases c1 : n < 1 ∨ 8 < n
  · rw [signB_odd v n c1]
    have hd : decide (1 ≤ n ∧ n ≤ 8) = false := decide_eq_false (by omega)
    clear c1
    go_enter Tryz.func148, Tryz.ntmps148
    go_wp2_with fail
    refine (right_any _ n).mono ?_
    rw [hd]
    rintro e w' ⟨rfl, rfl⟩
    go_wp2
    go_ret
    exact ⟨rfl, rfl⟩
  have hc : n = 1 ∨ n = 2 ∨ n = 3 ∨ n = 4 ∨ n = 5 ∨ n = 6 ∨ n = 7 ∨ n = 8 := by omega
  clear c1 hn
  rcases hc with rfl | rfl | rfl | rfl | rfl | rfl | rfl | rfl
  · rw [show signB v 1 = (v + 128) % 256 - 128 from rfl]
    go_enter Tryz.func148, Tryz.ntmps148
    go_wp2_with fail
    refine (right_any _ 1).mono ?_
    rw [show decide ((1 : Int) ≤ 1 ∧ (1 : Int) ≤ 8) = true from rfl]
    rintro e w' ⟨rfl, rfl⟩
    go_wp2
    go_ret
    exact ⟨ret_int (by simp only [IntKind.wrap_u64, wrap64] <;> omega), rfl⟩
  · rw [show signB v 2 = (v + 32768) % 65536 - 32768 from rfl]
    go_enter Tryz.func148, Tryz.ntmps148
    go_wp2_with fail
    refine (right_any _ 2).mono ?_
    rw [show decide ((1 : Int) ≤ 2 ∧ (2 : Int) ≤ 8) = true from rfl]
    rintro e w' ⟨rfl, rfl⟩
    go_wp2
    go_ret
    exact ⟨ret_int (by simp only [IntKind.wrap_u64, wrap64] <;> omega), rfl⟩
  · rw [show signB v 3 = (v + 8388608) % 16777216 - 8388608 from rfl]
    go_enter Tryz.func148, Tryz.ntmps148
    go_wp2_with fail
    refine (right_any _ 3).mono ?_
    rw [show decide ((1 : Int) ≤ 3 ∧ (3 : Int) ≤ 8) = true from rfl]
    rintro e w' ⟨rfl, rfl⟩
    go_wp2
    go_ret
    exact ⟨ret_int (by simp only [IntKind.wrap_u64, wrap64] <;> omega), rfl⟩
  · rw [show signB v 4 = (v + 2147483648) % 4294967296 - 2147483648 from rfl]
    go_enter Tryz.func148, Tryz.ntmps148
    go_wp2_with fail
    refine (right_any _ 4).mono ?_
    rw [show decide ((1 : Int) ≤ 4 ∧ (4 : Int) ≤ 8) = true from rfl]
    rintro e w' ⟨rfl, rfl⟩
    go_wp2
    go_ret
    exact ⟨ret_int (by simp only [IntKind.wrap_u64, wrap64] <;> omega), rfl⟩
  · rw [show signB v 5 = (v + 549755813888) % 1099511627776 - 549755813888 from rfl]
    go_enter Tryz.func148, Tryz.ntmps148
    go_wp2_with fail
    refine (right_any _ 5).mono ?_
    rw [show decide ((1 : Int) ≤ 5 ∧ (5 : Int) ≤ 8) = true from rfl]
    rintro e w' ⟨rfl, rfl⟩
    go_wp2
    go_ret
    exact ⟨ret_int (by simp only [IntKind.wrap_u64, wrap64] <;> omega), rfl⟩
  · rw [show signB v 6 = (v + 140737488355328) % 281474976710656 - 140737488355328 from rfl]
    go_enter Tryz.func148, Tryz.ntmps148
    go_wp2_with fail
    refine (right_any _ 6).mono ?_
    rw [show decide ((1 : Int) ≤ 6 ∧ (6 : Int) ≤ 8) = true from rfl]
    rintro e w' ⟨rfl, rfl⟩
    go_wp2
    go_ret
    exact ⟨ret_int (by simp only [IntKind.wrap_u64, wrap64] <;> omega), rfl⟩
  · rw [show signB v 7 = (v + 36028797018963968) % 72057594037927936 - 36028797018963968 from rfl]
    go_enter Tryz.func148, Tryz.ntmps148
    go_wp2_with fail
    refine (right_any _ 7).mono ?_
    rw [show decide ((1 : Int) ≤ 7 ∧ (7 : Int) ≤ 8) = true from rfl]
    rintro e w' ⟨rfl, rfl⟩
    go_wp2
    go_ret
    exact ⟨ret_int (by simp only [IntKind.wrap_u64, wrap64] <;> omega), rfl⟩
  · rw [show signB v 8 = (v + 9223372036854775808) % 18446744073709551616 - 9223372036854775808 from rfl]
    go_enter Tryz.func148, Tryz.ntmps148
    go_wp2_with fail
    refine (right_any _ 8).mono ?_
    rw [show decide ((1 : Int) ≤ 8 ∧ (8 : Int) ≤ 8) = true from rfl]
    rintro e w' ⟨rfl, rfl⟩
    go_wp2
    go_ret
    exact ⟨ret_int (by simp only [IntKind.wrap_u64, wrap64] <;> omega), rfl⟩
end Go.Proofs.YtclpkipaehpkdaaGreatDoor

namespace Go.Proofs.YtclpkipaehpkdaaGreatDoor
open Go.ChangeShapes Go.WideShapes Go.ChangeAt Go.RowKit
structure RW where
  pos : Int
  op : Nat
  a : Int
  b : Int
def RW.cells (r : RW) : List Value := [.int .i64 r.pos, .int .u8 (r.op : Nat), .int .i64 r.a, .int .i64 r.b]
theorem RW.cells_length (r : RW) : r.cells.length = 4 := rfl
def thereB (l : List RW) (p : Int) : Bool := l.any fun r => r.pos == p
def goesB (l : List RW) : Bool := l.all fun r => !(formN r.op == 7) || thereB l r.a
def tellV (bs : List UInt8) (p f : Nat) : Int := (getR bs ((p : Int) + 1) ((max (sizeN f - 1) 1 : Nat) : Int)).1
def readA (bs : List UInt8) (p f : Nat) : Int :=
  let v := tellV bs p f
  if f = 1 then 0 else if f = 3 then signB v 1 else if f = 4 then signB v 2 else if f = 7 then (p : Int) + signB v 2 else if f = 8 then v / 256 else v
def readB (bs : List UInt8) (p f : Nat) : Int := if f = 8 then signB (tellV bs p f) 1 else 0
def readBad (bs : List UInt8) (p f : Nat) : Bool := f == 9 && !(readA bs p f == 8) && !(readA bs p f == 10)
def opAt (bs : List UInt8) (p : Nat) : Nat := (bs.getD p 0).toNat
def rawAt (bs : List UInt8) (p : Nat) : RW := ⟨p, opAt bs p, readA bs p (formN (opAt bs p)), readB bs p (formN (opAt bs p))⟩
def decF (bs : List UInt8) : Nat → Nat → List RW → Int × List RW
  | 0, _, acc => (0, acc)
  | fuel + 1, p, acc =>
    if bs.length ≤ p then (0, acc)
    else if formN (opAt bs p) = 0 then (8, [])
    else if bs.length - p < sizeN (formN (opAt bs p)) then (6, [])
    else if readBad bs p (formN (opAt bs p)) = true then (8, [])
    else decF bs fuel (p + sizeN (formN (opAt bs p))) (acc ++ [rawAt bs p])
def decodeR (bs : List UInt8) : Int × List RW :=
  if 4096 < bs.length then (9, [])
  else if (decF bs (bs.length + 1) 0 []).1 ≠ 0 then ((decF bs (bs.length + 1) 0 []).1, [])
  else if goesB (decF bs (bs.length + 1) 0 []).2 = true then (0, (decF bs (bs.length + 1) 0 []).2)
  else (2, [])
def fitsB (r : RW) (f : Nat) : Bool :=
  if f ≠ 8 ∧ r.b ≠ 0 then false
  else if f = 1 then decide (r.a = 0)
  else if f = 3 then decide (-128 ≤ r.a ∧ r.a ≤ 127)
  else if f = 4 then decide (-32768 ≤ r.a ∧ r.a ≤ 32767)
  else if f = 6 then decide (0 ≤ r.a ∧ r.a ≤ 65535)
  else if f = 9 then decide (r.a = 8 ∨ r.a = 10)
  else if f = 8 then decide (0 ≤ r.a ∧ r.a ≤ 255) && decide (-128 ≤ r.b ∧ r.b ≤ 127)
  else if f = 2 ∨ f = 5 then decide (0 ≤ r.a ∧ r.a ≤ 255)
  else decide (f = 7)
def u64N (n : Int) : Nat := (n % 18446744073709551616).toNat
theorem u64N_lt (n : Int) : u64N n < 18446744073709551616 := by unfold u64N; omega
theorem u64N_wrap (n : Int) : IntKind.u64.wrap n = (u64N n : Int) := by rw [IntKind.wrap_u64]; unfold u64N; omega
def encOne (r : RW) : List UInt8 :=
  UInt8.ofNat r.op :: (if formN r.op = 7 then putB (u64N (r.a - r.pos)) 2 else if formN r.op = 8 then putB (u64N r.a) 1 ++ putB (u64N r.b) 1 else putB (u64N r.a) (sizeN (formN r.op) - 1))
def encL (l : List RW) : List UInt8 := l.flatMap encOne
def goodAt (l : List RW) (k : Nat) : Bool :=
  match l[k]? with
  | some r => fitsB r (formN r.op) && decide (r.pos = ((encL (l.take k)).length : Nat))
  | none => true
def encodeR (l : List RW) : Int × List UInt8 :=
  if (List.range l.length).all (goodAt l) = false then (8, [])
  else if goesB l = false then (2, [])
  else if 4096 < (encL l).length then (9, [])
  else (0, encL l)
end Go.Proofs.YtclpkipaehpkdaaGreatDoor

namespace Go.Proofs.YtclpkipaehpkdaaGreatDoor
open Go.ChangeShapes Go.WideShapes Go.ChangeAt Go.RowKit
open Go.Maps (Keyed int_keyed)
def Rs (w : World) (a : Option Addr) (n : Nat) (L : List RW) : Prop := Ss 4 RW.cells w a n L
theorem Rs.below {w w' : World} {a : Option Addr} {n : Nat} {L : List RW} (h : Rs w a n L) (hb : Below w.heap.size w w') : Rs w' a n L := Ss.below h hb
structure RAt (w : World) (b o : Nat) (p : Int) (k : Nat) (x y : Int) : Prop where
  c0 : w.cell? ⟨b, o, none⟩ = some (.int .i64 p)
  c1 : w.cell? ⟨b, o + 1, none⟩ = some (.int .u8 (k : Nat))
  c2 : w.cell? ⟨b, o + 2, none⟩ = some (.int .i64 x)
  c3 : w.cell? ⟨b, o + 3, none⟩ = some (.int .i64 y)
theorem RAt.below {w w' : World} {b o : Nat} {p : Int} {k : Nat} {x y : Int} (h : RAt w b o p k x y) (hb : Below w.heap.size w w') : RAt w' b o p k x y :=
  ⟨cellS_below hb h.c0, cellS_below hb h.c1, cellS_below hb h.c2, cellS_below hb h.c3⟩
theorem Rs.at {w : World} {a : Option Addr} {n : Nat} {L : List RW} (h : Rs w a n L) (i : Nat) (hi : i < n) : ∃ b off r, a = some ⟨b, off, none⟩ ∧ b < w.heap.size ∧ L[i]? = some r ∧ RAt w b (off + i * 4) r.pos r.op r.a r.b := by
  obtain ⟨b, off, ha, hlt, hc⟩ := h.2 (by omega)
  have hl : i < L.length := by rw [h.1]; exact hi
  exact ⟨b, off, L[i], ha, hlt, List.getElem?_eq_getElem hl, hc i hl 0 (by omega), hc i hl 1 (by omega), hc i hl 2 (by omega), hc i hl 3 (by omega)⟩
def IntRo (n : Int) : Prop := (Lit.int .i64 n).wf = true
def placesD (L : List RW) : DataW Unit := L.foldl (fun D r => D.put (.int .i64 r.pos) (.lit (.bool true))) (.map [])
theorem plainElem_bool_inv {H : Type} {P : Program} {e : TypeId} (he : P.underlying e = some .bool) {v : Value} {z : DataW H × List MemPlace} (h : plainElem P e v = some z) : ∃ x, v = .bool x ∧ z = (.lit (.bool x), []) := by
  unfold plainElem at h
  rw [he] at h
  cases v <;> simp at h
  exact ⟨_, rfl, h.symm⟩
theorem there_cons (r : RW) (L : List RW) (p : Int) : thereB (r :: L) p = (r.pos == p || thereB L p) := rfl
theorem fold_at (L : List RW) (D : DataW Unit) (hD : Maps.IsMap D) (p : Int) (z : DataW Unit) :
    (L.foldl (fun D r => D.put (.int .i64 r.pos) (.lit (.bool true))) D).atKey (.int .i64 p) z = if thereB L p = true then .lit (.bool true) else D.atKey (.int .i64 p) z := by
  induction L generalizing D with
  | nil => simp [thereB]
  | cons r L ih =>
    rw [List.foldl_cons, ih _ (hD.put _ _), there_cons]
    by_cases h1 : thereB L p = true
    · simp [h1]
    · by_cases h2 : r.pos = p
      · subst h2
        rw [Maps.atKey_put_same hD (by trivial)]
        simp
      · rw [Maps.atKey_put_other (by intro h; cases h; exact h2 rfl)]
        simp [h1, h2]
theorem places_at (L : List RW) (p : Int) : (placesD L).atKey (.int .i64 p) (.lit (.bool false)) = .lit (.bool (thereB L p)) := by
  unfold placesD
  rw [fold_at L _ Maps.isMap_empty]
  cases thereB L p
  · simp; rfl
  · simp
theorem zeroBool (w : World) : (zeroValue 4).run Tryz.prog w = .ok (.bool false) w := by kernel_rfl
theorem look_bool {w : World} {b n : Nat} {L : List RW} (h : w.ownsMap Tryz.prog 3 (plainElem Tryz.prog 4) b n (placesD L)) (p : Int) (hp : IntRo p) :
    (Instr.lookup 211 (.map (some b)) (.int .i64 p) false).run Tryz.prog w = .ok (.bool (thereB L p)) w := by
  obtain ⟨v, ps, hrun, hv⟩ := h.lookup (int_keyed Tryz.underlying3) Tryz.underlying211 (zeroBool w) (plainElem_bool Tryz.underlying4 false) (Maps.keyOf_int_mk Tryz.underlying3 hp)
  obtain ⟨x, rfl, hx⟩ := plainElem_bool_inv Tryz.underlying4 hv
  rw [places_at] at hx
  simp at hx
  rw [hrun, hx.1]
def PlacesRet (L : List RW) (w : World) (e : Ending) (w' : World) : Prop := ∃ b, e = .returned (.map (some b)) ∧ w.heap.size ≤ b ∧ w'.ownsMap Tryz.prog 3 (plainElem (H := Unit) Tryz.prog 4) b L.length (placesD L) ∧ Below w.heap.size w w'
set_option maxRecDepth 100000 in
set_option maxHeartbeats 4000000 in
theorem places_any (w : World) (a : Option Addr) (n cap : Nat) (L : List RW) (hs : Rs w a n L) (hn : n ≤ 65536) (hw : ∀ r ∈ L, IntRo r.pos) : Calls Tryz.prog 149 #[.slice a n cap] w (PlacesRet L w) := by
  have HS := Lib.hid hs
  have HLn := Lib.hid hs.1
  have HW := Lib.hid hw
  have hmm := @run_makeMap Tryz.prog
  clear hs hw
  go_enter Tryz.func149, Tryz.ntmps149
  go_wp2_with fail
  clear hmm
  go_loopg [9] n (fun gn i wr => ∃ j : Nat, j ≤ n ∧ gn = n - j ∧ i = .int .i64 j ∧ Hid (wr.ownsMap Tryz.prog 3 (plainElem (H := Unit) Tryz.prog 4) w.heap.size j (placesD (L.take j))) ∧ Hid (Below w.heap.size w wr))
  case atStart => exact ⟨0, by omega, by omega, by go_num, Lib.hid (World.ownsMap_made _ _ _ _), Lib.hid ((Below.refl _ _).alloc (Nat.le_refl _) _)⟩
  case round =>
    obtain ⟨j, hj, rfl, rfl, HM, HB⟩ := hrel
    by_cases hlt : j < n
    · obtain ⟨b, off, r, rfl, _, hr, q⟩ := (HS.out.below HB.out).at j hlt
      obtain ⟨q0, q1, q2, q3⟩ := q
      have hrp := HW.out r (List.mem_of_getElem? hr)
      have HN := Lib.hid (show placesD (L.take (j + 1)) = (placesD (L.take j)).put (.int .i64 r.pos) (.lit (.bool true)) by
        have hjl := (List.getElem?_eq_some_iff.1 hr).1
        have he := (List.getElem?_eq_some_iff.1 hr).2
        unfold placesD
        rw [List.take_succ_eq_append_getElem hjl, List.foldl_append, he]
        rfl)
      have j1 : (j : Int) < n := by omega
      clear hr
      obtain ⟨p, k, x, y⟩ := r
      simp only at q0 q1 q2 q3 hrp HN
      obtain ⟨w', hrun, hown, hturn⟩ := (HM.out.alloc (.cells #[.int .i64 p, .int .u8 (k : Nat), .int .i64 x, .int .i64 y] 118)).store (int_keyed Tryz.underlying3) Tryz.underlying211 (by unfold maxLen; omega) (val := .bool true) (Maps.keyOf_int_mk Tryz.underlying3 hrp) (plainElem_bool Tryz.underlying4 true)
      have HM2 := Lib.hid hown
      have HB2 := Lib.hid ((HB.out.alloc HB.out.size (.cells #[.int .i64 p, .int .u8 (k : Nat), .int .i64 x, .int .i64 y] 118)).grown hturn.grown (Nat.le_trans HB.out.size (by simp)) (fun m hm => by cases hm; exact Nat.le_refl _))
      clear hown hturn hrp
      go_wp2_with fail
      go_roundg (n - (j + 1))
      case measure => omega
      case rel => exact ⟨j + 1, by omega, rfl, by go_num, Lib.hid (by rw [HN.out]; exact HM2.out), HB2⟩
    · obtain rfl : j = n := by omega
      have HE := Lib.hid HM.out
      rw [List.take_of_length_le (by rw [HLn.out]; exact Nat.le_refl _)] at HE
      go_wp2_with fail
      go_ret
      exact ⟨_, rfl, Nat.le_refl _, by rw [HLn.out]; exact HE.out, HB.out⟩
def GoesRet (L : List RW) (w : World) (e : Ending) (w' : World) : Prop := e = .returned (.bool (goesB L)) ∧ Below w.heap.size w w'
theorem goes_bad {L : List RW} {r : RW} (hr : r ∈ L) (h : (!(formN r.op == 7) || thereB L r.a) = false) : goesB L = false := by
  unfold goesB
  rw [List.all_eq_false]
  exact ⟨r, hr, by rw [h]; decide⟩
theorem goes_good {L : List RW} (h : ∀ (k : Nat) r, L[k]? = some r → (!(formN r.op == 7) || thereB L r.a) = true) : goesB L = true := by
  unfold goesB
  rw [List.all_eq_true]
  intro r hr
  obtain ⟨k, hk, rfl⟩ := List.getElem_of_mem hr
  exact h k _ (List.getElem?_eq_getElem hk)
set_option maxRecDepth 100000 in
set_option maxHeartbeats 8000000 in
theorem goes_any (w : World) (a : Option Addr) (n cap : Nat) (L : List RW) (hs : Rs w a n L) (hn : n ≤ 65536) (hw : ∀ r ∈ L, IntRo r.pos ∧ IntRo r.a ∧ r.op < 256) : Calls Tryz.prog 101 #[.slice a n cap, .agg (tabN formN)] w (GoesRet L w) := by
  have HS := Lib.hid hs
  have HLn := Lib.hid hs.1
  have HW := Lib.hid hw
  have hpl := places_any (w.alloc (.cells (tabN formN) 164)) a n cap L (hs.below ((Below.refl _ _).alloc (Nat.le_refl _) _)) hn (fun r hr => (hw r hr).1)
  have HP := Lib.hid hpl
  clear hs hw hpl
  go_enter Tryz.func101, Tryz.ntmps101
  go_wp2_with fail
  refine HP.out.mono ?_
  rintro e w1 ⟨b, rfl, hb0, hm1, hb1⟩
  have hT := heap_alloc_last w (.cells (tabN formN) 164)
  rw [← hb1.block _ (by simp)] at hT
  have HT := Lib.hid hT
  have HM := Lib.hid hm1
  have HB1 := Lib.hid (((Below.refl w.heap.size w).alloc (Nat.le_refl _) (.cells (tabN formN) 164)).trans (hb1.mono (by simp)))
  clear hb0 hm1 hb1 hT HP
  go_wp2_with fail
  go_loopg [12] n (fun gn i wr => ∃ j : Nat, j ≤ n ∧ gn = n - j ∧ i = .int .i64 j ∧ Hid (∀ (k : Nat) r, k < j → L[k]? = some r → (!(formN r.op == 7) || thereB L r.a) = true) ∧ Hid (Below w1.heap.size w1 wr))
  case atStart => exact ⟨0, by omega, by omega, by go_num, Lib.hid (fun k r h => by omega), Lib.hid (Below.refl _ _)⟩
  case round =>
    obtain ⟨j, hj, rfl, rfl, HG, HB⟩ := hrel
    have HBB := Lib.hid (HB1.out.trans (HB.out.mono HB1.out.size))
    by_cases hlt : j < n
    · obtain ⟨bb, off, r, rfl, _, hr, q⟩ := (HS.out.below HBB.out).at j hlt
      obtain ⟨q0, q1, q2, q3⟩ := q
      obtain ⟨_, hra, hop⟩ := HW.out r (List.mem_of_getElem? hr)
      have hT : wr.heap[w.heap.size]? = some (.cells (tabN formN) 164) := by rw [HB.out.block _ (Array.getElem?_eq_some_iff.1 HT.out).1]; exact HT.out
      have tc : wr.cell? ⟨w.heap.size, r.op, none⟩ = some (.int .u8 (formN r.op : Nat)) := by rw [cell_of_row wr _ _ _ _ _ hT]; exact tabN_at _ _ hop
      have hk := look_bool (((HM.out.kept (row := none) ⟨HB.out.os, HB.out.tape, HB.out.output, HB.out.size, fun k hk _ => HB.out.block k hk⟩ (by simp)).alloc (.cells #[.int .i64 r.pos, .int .u8 (r.op : Nat), .int .i64 r.a, .int .i64 r.b] 118))) r.a hra
      have HBad := Lib.hid (goes_bad (L := L) (List.mem_of_getElem? hr))
      have HNx := Lib.hid (show (!(formN r.op == 7) || thereB L r.a) = true → ∀ (k : Nat) r, k < j + 1 → L[k]? = some r → (!(formN r.op == 7) || thereB L r.a) = true from fun h k r' hk hr' => by
        rcases Nat.lt_or_ge k j with h1 | h1
        · exact HG.out k r' h1 hr'
        · obtain rfl : k = j := by omega
          rw [hr] at hr'
          cases hr'
          exact h)
      have j1 : (j : Int) < n := by omega
      have o1 : (r.op : Int) < 256 := by omega
      have f9 := formN_le r.op
      obtain ⟨p, o, x, y⟩ := r
      simp only at q0 q1 q2 q3 hra hop hT tc hk HBad HNx o1 f9
      generalize thereB L x = th at *
      generalize formN o = f at *
      have hl0 : w.heap.size < wr.heap.size := (Array.getElem?_eq_some_iff.1 hT).1
      clear hr hT hra
      have HA := Lib.hid (HB.out.alloc HB.out.size (.cells #[.int .i64 p, .int .u8 (o : Nat), .int .i64 x, .int .i64 y] 118))
      by_cases h7 : f = 7
      · subst h7
        cases th
        · have HR := Lib.hid (HBad.out rfl)
          go_wp2_with fail
          go_ret
          exact ⟨by rw [HR.out]; rfl, HB1.out.trans (HA.out.mono HB1.out.size)⟩
        · have HQ := Lib.hid (HNx.out rfl)
          go_wp2_with fail
          go_roundg (n - (j + 1))
          case measure => omega
          case rel => exact ⟨j + 1, by omega, rfl, by go_num, HQ, HA⟩
      · have e7 : ((f : Int) == 7) = false := by simp; omega
        have HQ := Lib.hid (HNx.out (by simp [h7]))
        clear h7
        go_wp2_with fail
        go_roundg (n - (j + 1))
        case measure => omega
        case rel => exact ⟨j + 1, by omega, rfl, by go_num, HQ, HA⟩
    · obtain rfl : j = n := by omega
      have HR := Lib.hid (goes_good (L := L) (fun k r hk => HG.out k r (by have := (List.getElem?_eq_some_iff.1 hk).1; rw [HLn.out] at this; exact this) hk))
      go_wp2_with fail
      go_ret
      exact ⟨by rw [HR.out]; rfl, HBB.out⟩
end Go.Proofs.YtclpkipaehpkdaaGreatDoor

