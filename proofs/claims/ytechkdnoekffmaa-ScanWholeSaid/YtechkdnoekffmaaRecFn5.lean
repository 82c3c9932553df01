/- rec: the reader's methods. No condition. -/
import Derived.Test.YtechkdnoekffmaaRecFn4
namespace Go.Proofs.Ytechkdnoekffmaa
open Go.ChangeShapes Go.WideShapes Go.ChangeAt Go.RowKit
/-- A reader's block: its bytes, and where it stands. -/
def BlkR (w : World) (g : Nat) (a : Option Addr) (n cap : Nat) (i : Int) : Prop := w.heap[g]? = some (.cells #[.slice a n cap, .int .i64 i] 64)
theorem BlkR.lt {w : World} {g : Nat} {a : Option Addr} {n cap : Nat} {i : Int} (h : BlkR w g a n cap i) : g < w.heap.size := (Array.getElem?_eq_some_iff.1 h).1
theorem BlkR.belowB {w w1 : World} {B g : Nat} {a : Option Addr} {n cap : Nat} {i : Int} (h : BlkR w g a n cap i) (hb : Below B w w1) (hlt : g < B) : BlkR w1 g a n cap i := by
  unfold BlkR; rw [hb.block _ hlt]; exact h
theorem BlkR.below {w w1 : World} {g : Nat} {a : Option Addr} {n cap : Nat} {i : Int} (h : BlkR w g a n cap i) (hb : Below w.heap.size w w1) : BlkR w1 g a n cap i := h.belowB hb h.lt
theorem BlkR.cells {w : World} {g : Nat} {a : Option Addr} {n cap : Nat} {i : Int} (hg : BlkR w g a n cap i) : w.cell? ⟨g, 0, none⟩ = some (.slice a n cap) ∧ w.cell? ⟨g, 1, none⟩ = some (.int .i64 i) ∧ w.frozen? ⟨g, 0, none⟩ = false ∧ w.frozen? ⟨g, 1, none⟩ = false := by
  refine ⟨?_, ?_, ?_, ?_⟩
  · rw [cell_of_row w _ 0 _ _ _ hg]; rfl
  · rw [cell_of_row w _ 1 _ _ _ hg]; rfl
  all_goals (unfold World.frozen?; rw [show w.heap[g]? = _ from hg]; rfl)
theorem heap_set5 {w : World} {g : Nat} {cs : Array Value} {t : TypeId} {fr : Nat × Nat} (h : w.heap[g]? = some (.cells cs t fr)) (o : Nat) (v : Value) : (w.setCell ⟨g, o, none⟩ v).heap[g]? = some (.cells (cs.setIfInBounds o v) t fr) := by
  unfold World.setCell
  simp [Array.getElem?_modify, h]
theorem BlkR.set {w : World} {g : Nat} {a : Option Addr} {n cap : Nat} {i j : Int} (h : BlkR w g a n cap i) : BlkR (w.setCell ⟨g, 1, none⟩ (.int .i64 j)) g a n cap j := heap_set5 h 1 _
theorem BlkR.drew {w : World} {g : Nat} {a : Option Addr} {n cap : Nat} {i : Int} (h : BlkR w g a n cap i) : BlkR w.drew g a n cap i := h
/-- What the reader's methods leave behind: the reader stands further on; nothing else below has turned. -/
def ReadTo (g : Nat) (a : Option Addr) (n cap : Nat) (j : Int) (w w' : World) : Prop := BlkR w' g a n cap j ∧ Below g w w' ∧ (∀ h, g < h → h < w.heap.size → w'.heap[h]? = w.heap[h]?)
set_option maxRecDepth 100000 in
set_option maxHeartbeats 4000000 in
theorem next_any (w : World) (g : Nat) (a : Option Addr) (n cap : Nat) (bs : List UInt8) (i k : Nat) (hK : BlkR w g a n cap i) (hs : Sl encB w a n bs) (hcap : n ≤ cap) (hn : n ≤ 1048576) (hk1 : 1 ≤ k) (hk : k ≤ 4) (hi : i + k ≤ n) :
    Calls Try.prog 25 #[.pointer (some ⟨g, 0, none⟩), .int .i64 k] w fun e w' => e = .returned (.int .i64 (getN ((bs.drop i).take k))) ∧ ReadTo g a n cap ((i : Int) + k) w w' := by
  have HK := Lib.hid hK
  have HS := Lib.hid hs
  have hG := fun w' (h : Below w.heap.size w w') => Get_any w' a n cap bs i k (HS.out.below h) hn hcap (by unfold IntR; omega) (by unfold IntR; omega)
  have hbl := hs.1
  have hR : getR bs i k = (((getN ((bs.drop i).take k) : Nat) : Int), (0 : Int)) := by
    unfold getR; rw [if_neg (by omega), if_neg (by omega)]; rfl
  rw [hR] at hG
  have HG := Lib.hid hG
  have hlt := getN_lt ((bs.drop i).take k)
  have hlt2 : getN ((bs.drop i).take k) < 4294967296 := by
    have h2 : 256 ^ ((bs.drop i).take k).length ≤ 256 ^ 4 := Nat.pow_le_pow_right (by decide) (by simp; omega)
    omega
  clear hG hR hlt hK hs
  generalize getN ((bs.drop i).take k) = v at HG hlt2 ⊢
  go_enter Try.func25, Try.ntmps25
  go_wp2_with fail
  have ld0 : ∀ w', Below w.heap.size w w' → w'.cell? ⟨g, 0, none⟩ = some (.slice a n cap) := fun w' h => (HK.out.below h).cells.1
  have ld1 : ∀ w', Below w.heap.size w w' → w'.cell? ⟨g, 1, none⟩ = some (.int .i64 i) := fun w' h => (HK.out.below h).cells.2.1
  have hSw : Below w.heap.size w w.drew := (Below.refl _ _).drew
  refine wp_region_lex (Below w.heap.size w) [(0, true), (1, true), (2, true), (3, true), (4, true), (5, true), (6, true), (7, true), (8, true), (9, false), (10, true), (11, true), (12, true), (13, true), (14, true)] (by kernel_rfl) (by kernel_rfl) (fun c a d v w h => by cases d <;> exact h) ?_
  iterate 9
    refine lex_step (fun K hK => ?_)
    simp only [lexOp, List.getElem?_toArray, List.getElem?_cons_succ, List.getElem?_cons_zero]
    rw [if_pos (by rfl)]
    apply Exists.intro
    refine ⟨fun w' hS' => ?_, hSw, ?_⟩
    · first | (go_simp <;> with_reducible rfl) | (go_simp; go_bits; with_reducible rfl)
    go_simp
    try go_bits
    refine hK _ _ ?_
    clear hK K
  refine lex_step (fun K hK => ?_)
  simp only [lexOp, List.getElem?_toArray, List.getElem?_cons_succ, List.getElem?_cons_zero]
  rw [if_pos (by rfl)]
  go_step
  refine (HG.out _ hSw).mono ?_
  rintro e w2 ⟨rfl, rfl⟩
  go_simp
  refine hK _ _ ?_
  clear hK K
  iterate 5
    refine lex_step (fun K hK => ?_)
    simp only [lexOp, List.getElem?_toArray, List.getElem?_cons_succ, List.getElem?_cons_zero]
    rw [if_pos (by rfl)]
    apply Exists.intro
    refine ⟨fun w' hS' => ?_, hSw, ?_⟩
    · first | (go_simp <;> with_reducible rfl) | (go_simp; go_bits; with_reducible rfl)
    go_simp
    try go_bits
    refine hK _ _ ?_
    clear hK K
  refine lex_nil ?_
  clear ld0 ld1 hSw
  obtain ⟨p0, p1, f0, f1⟩ := HK.out.drew.cells
  have hltg : g < w.heap.size := HK.out.lt
  go_wp2_with fail
  go_ret
  exact ⟨rfl, HK.out.drew.set, ((Below.refl g w).drew).setCell (p := ⟨g, 1, none⟩) (Nat.le_refl g) _, fun h h1 _ => Below.heap_setCell _ _ _ _ (by simp only []; omega)⟩
set_option maxRecDepth 100000 in
set_option maxHeartbeats 4000000 in
theorem take_any (w : World) (g : Nat) (b off n cap : Nat) (i k : Nat) (hK : BlkR w g (some ⟨b, off, none⟩) n cap i) (hcap : n ≤ cap) (hn : n ≤ 1048576) (hi : i + k ≤ n) (hic : i ≠ cap) :
    Calls Try.prog 27 #[.pointer (some ⟨g, 0, none⟩), .int .i64 k] w fun e w' => e = .returned (.slice (some ⟨b, off + i, none⟩) k (cap - i)) ∧ ReadTo g (some ⟨b, off, none⟩) n cap ((i : Int) + k) w w' := by
  have HK := Lib.hid hK
  have hltg : g < w.heap.size := hK.lt
  obtain ⟨p0, p1, f0, f1⟩ := hK.cells
  have g1 : (0 : Int) ≤ (i : Int) := by omega
  have g2 : (i : Int) ≤ (i : Int) + (k : Int) := by omega
  have g3 : (i : Int) + (k : Int) ≤ (cap : Int) := by omega
  have g4 : ¬ cap = i := by omega
  clear hK
  go_enter Try.func27, Try.ntmps27
  go_wp2_with fail
  have K2 := Lib.hid (BlkR.set (j := (i : Int) + k) HK.out)
  obtain ⟨r0, r1, s0, s1⟩ := K2.out.cells
  go_quiet (fail)
  go_wp2
  go_ret
  exact ⟨by rw [Nat.add_sub_cancel_left]; rfl, K2.out, bdrewN ((Below.refl g w).setCell (p := ⟨g, 1, none⟩) (Nat.le_refl g) _) _, fun h h1 _ => Below.heap_setCell w ⟨g, 1, none⟩ _ h (by simp only []; omega)⟩
end Go.Proofs.Ytechkdnoekffmaa
