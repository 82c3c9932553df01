/- scan: DeleteFunc of found records. No condition. -/
import Derived.Test.YtechkdnoekffmaaQ10ScanTorn
import Derived.Lib.SliceRun
namespace Go.Proofs.Ytechkdnoekffmaa
open Go.ChangeShapes Go.WideShapes Go.ChangeAt Go.RowKit
theorem zeroF (w : World) : (zeroValue 31).run Try.prog w = .ok zFound w := by kernel_rfl
theorem setCells_below (B b : Nat) (vs : List Value) (o : Nat) (w : World) (hb : B ≤ b) : Below B w (w.setCells b o vs) := by
  induction vs generalizing o w with
  | nil => exact Below.refl _ _
  | cons v vs ih => exact ((Below.refl B w).setCell (p := ⟨b, o, none⟩) hb v).trans (ih (o + 1) _)
theorem clear_tail (w : World) (gc c k : Nat) (cur : Array Value) (hg : w.heap[gc]? = some (.cells cur 31 (0, 0))) (hsz : cur.size = c * 6) (hk : 2 ≤ k) (hkc : k ≤ c) (ty : TypeId) :
    (Builtin.clear_ #[25] ty #[.slice (some ⟨gc, 6, none⟩) (k - 1) (c - 1)]).run Try.prog w = .ok (.tuple #[]) (w.setCells gc 6 (Builtin.zeroCells zFound.cells (k - 1)).toList) := by
  have hlen : (Builtin.zeroCells zFound.cells (k - 1)).toList.length = (k - 1) * 6 := by
    unfold Builtin.zeroCells
    simp [zFound, Value.cells]
  have hone : ∀ v ∈ (Builtin.zeroCells zFound.cells (k - 1)).toList, v.oneCell' = true := by
    intro v hv
    unfold Builtin.zeroCells at hv
    simp only [Array.toList_map, List.mem_map] at hv
    obtain ⟨i, _, rfl⟩ := hv
    have h6 : ∀ r : Fin 6, (zFound.cells[r.val]!).oneCell' = true := by decide
    exact h6 ⟨i % zFound.cells.size, Nat.mod_lt _ (by decide)⟩
  have hst := run_storeCells_cells (P := Try.prog) gc 6 (Builtin.zeroCells zFound.cells (k - 1)).toList 0 w
    (fun j hj => by
      rw [hlen] at hj
      rw [cell_of_row w gc _ _ _ _ hg, Array.getElem?_eq_getElem (by rw [hsz]; omega)]; rfl)
    (fun j hj => by unfold World.frozen?; rw [hg]; simp) hone
  simp only [Nat.add_zero] at hst
  obtain ⟨m, hm⟩ : ∃ m, k - 1 = m + 1 := ⟨k - 2, by omega⟩
  rw [hm] at hst ⊢
  unfold zFound at hst ⊢
  simp [Builtin.clear_, run_underlying Try.underlying25, zeroF, zFound, hst]
def DelRet (gc c : Nat) (w : World) (e : Ending) (w' : World) : Prop := e = .returned (.slice (some ⟨gc, 0, none⟩) 1 c) ∧ w'.cell? ⟨gc, 3, none⟩ = w.cell? ⟨gc, 3, none⟩ ∧ Below gc w w'
set_option maxRecDepth 100000 in
set_option maxHeartbeats 8000000 in
theorem deleteF (w : World) (B M pc pf g1 : Nat) (n2 : Option TV) (h : Tl w B M pc pf (some (g1, 1, 1, true)) n2) (gc c k Bc : Nat) (F : List FV) (hn2 : 2 < k → ∃ g2, n2 = some (g2, k - 2, k - 2, false))
    (ho : w.ownsRow Bc 31 6 (.slice (some ⟨gc, 0, none⟩) k c) k (F.flatMap FV.cells)) (hF : CmOk F) (hk : k ≤ 65536) :
    Calls Try.prog 19 #[.slice (some ⟨gc, 0, none⟩) k c, .func (.func 21) #[] #[.pointer (some ⟨pf, 0, none⟩)]] w (DelRet gc c w) := by
  obtain ⟨a, c', he, hs, hkc⟩ := Ss.ofOwn FV.cells_length (by omega) ho
  cases he
  have hk2 : 2 ≤ k := by rw [← hs.1]; exact hF.two
  have HI := Lib.hid (indexF w B M pc pf g1 n2 h (some ⟨gc, 0, none⟩) k c F hs hF hk)
  obtain ⟨cur, hg, hsz⟩ : ∃ cur, w.heap[gc]? = some (.cells cur 31 (0, 0)) ∧ cur.size = c * 6 := by
    rcases ho.2 with ⟨h1, _⟩ | ⟨g, cap, cur, hv, _, hg, _, _, hsz, _⟩
    · cases h1
    · cases hv
      exact ⟨cur, hg, hsz⟩
  have hlt := (Array.getElem?_eq_some_iff.1 hg).1
  have HC2 := Lib.hid (fun (w' : World) (hb : Below w.heap.size w w') (f : FV) (h2 : 2 < k) (hk : f.kd ≠ 3) (hk2 : f.kd ≤ 65536) (ht : f.tx = 2) => (show Calls Try.prog 21 #[.agg f.arr, .pointer (some ⟨pf, 0, none⟩)] w' (BoolB true w') from by
    obtain ⟨g2, rfl⟩ := hn2 h2
    exact cl2_two w' B M pc pf _ g2 (k - 2) (k - 2) false (h.below hb) f hk hk2 ht))
  have HCL := Lib.hid (fun (w' : World) (hb : Below w.heap.size w w') (ty : TypeId) => clear_tail w' gc c k cur (by rw [hb.block gc hlt]; exact hg) hsz hk2 hkc ty)
  have HS := Lib.hid hs
  have HF := Lib.hid hF
  clear hs hF h ho hn2 hg hsz
  go_enter Try.func19, Try.ntmps19
  go_wp2_with fail
  refine HI.out.mono ?_
  rintro e w1 ⟨rfl, hb1⟩
  have HB1 := Lib.hid hb1
  clear hb1 HI
  go_wp2_with fail
  go_loopg [6, 5] (k - 2) (fun gn i p wr => ∃ j : Nat, 2 ≤ j ∧ j ≤ k ∧ gn = k - j ∧ i = .int .i64 j ∧ p = .int .i64 1 ∧ Hid (Below w.heap.size w wr))
  case atStart => exact ⟨2, by omega, by omega, by omega, by go_num, rfl, HB1⟩
  case round =>
    obtain ⟨j, h2j, hj, rfl, rfl, rfl, HB⟩ := hrel
    by_cases hlt2 : j < k
    · obtain ⟨b, off, f, e0, hbl, hf, _, c0, c1, c2, c3, c4, c5⟩ := Fs.get (Ss.below HS.out HB.out) j hlt2
      cases e0
      obtain ⟨hfk, hfk2, hft⟩ := HF.out.f2 j f h2j hf
      have HX := Lib.hid (fun (w' : World) (hb : Below w.heap.size w w') => HC2.out w' hb f (by omega) hfk hfk2 hft)
      obtain ⟨pos, kd, tx, kb, fa, fn, fc, ct, bb⟩ := f
      unfold FV.arr at HX
      simp only [Nat.zero_add] at c0 c1 c2 c3 c4 c5 HX
      clear hf hfk hft hfk2
      go_upto_region 8 with fail
      have hal : Below wr.heap.size wr (wr.alloc (.cells #[.int .i64 pos, .int .i64 kd, .int .u32 tx, .string ⟨kb.toArray⟩, .slice fa fn fc, .int .i64 ct] 31)) := (Below.refl _ _).alloc (Nat.le_refl _) _
      have hX := heap_alloc_last wr (.cells #[.int .i64 pos, .int .i64 kd, .int .u32 tx, .string ⟨kb.toArray⟩, .slice fa fn fc, .int .i64 ct] 31)
      have HBA := Lib.hid (HB.out.trans (hal.mono HB.out.size))
      clear hal HB c0 c1 c2 c3 c4 c5
      generalize wr.alloc (.cells #[.int .i64 pos, .int .i64 kd, .int .u32 tx, .string ⟨kb.toArray⟩, .slice fa fn fc, .int .i64 ct] 31) = WA at *
      generalize wr.heap.size = gA at *
      have x0 : WA.cell? ⟨gA, 0, none⟩ = some (.int .i64 pos) := by rw [cell_of_row WA _ 0 _ _ _ hX]; rfl
      have x1 : WA.cell? ⟨gA, 1, none⟩ = some (.int .i64 kd) := by rw [cell_of_row WA _ 1 _ _ _ hX]; rfl
      have x2 : WA.cell? ⟨gA, 2, none⟩ = some (.int .u32 tx) := by rw [cell_of_row WA _ 2 _ _ _ hX]; rfl
      have x3 : WA.cell? ⟨gA, 3, none⟩ = some (.string ⟨kb.toArray⟩) := by rw [cell_of_row WA _ 3 _ _ _ hX]; rfl
      have x4 : WA.cell? ⟨gA, 4, none⟩ = some (.slice fa fn fc) := by rw [cell_of_row WA _ 4 _ _ _ hX]; rfl
      have x5 : WA.cell? ⟨gA, 5, none⟩ = some (.int .i64 ct) := by rw [cell_of_row WA _ 5 _ _ _ hX]; rfl
      clear hX
      go_wp2_with fail
      refine (HX.out WA HBA.out).mono ?_
      rintro e w2 ⟨rfl, hb2⟩
      have HB2 := Lib.hid (HBA.out.trans (hb2.mono HBA.out.size))
      clear hb2 HX x0 x1 x2 x3 x4 x5 HBA
      go_wp2_with fail
      go_roundg (k - (j + 1))
      case measure => omega
      case rel => exact ⟨j + 1, by omega, by omega, rfl, by go_num, rfl, HB2⟩
    · obtain rfl : k = j := by omega
      have hcl := HCL.out wr HB.out
      have hc1 : ¬ c = 1 := by omega
      have hE := Lib.hid (World.cell?_setCells_out gc (Builtin.zeroCells zFound.cells (k - 1)).toList 6 wr ⟨gc, 3, none⟩ (fun _ _ => .inl (by show 3 < 6; omega)))
      have hBE := Lib.hid (setCells_below gc gc (Builtin.zeroCells zFound.cells (k - 1)).toList 6 wr (Nat.le_refl _))
      have hc3 := Lib.hid (HB.out.cell (p := ⟨gc, 3, none⟩) hlt)
      clear HCL
      generalize wr.setCells gc 6 (Builtin.zeroCells zFound.cells (k - 1)).toList = WE at *
      have k1 : (1 : Int) ≤ k := by omega
      have k2 : (k : Int) ≤ c := by omega
      have k3 : (1 : Int) ≤ c := by omega
      go_wp2_with fail
      go_ret
      exact ⟨rfl, hE.out.trans hc3.out, (HB.out.mono (by omega)).trans hBE.out⟩
end Go.Proofs.Ytechkdnoekffmaa
/- scan: Commits. No condition. -/
namespace Go.Proofs.Ytechkdnoekffmaa
open Go.ChangeShapes Go.WideShapes Go.ChangeAt Go.RowKit
/-- The tallies behind j records of the first loop. -/
def S1 (j : Nat) (n1 n2 : Option TV) : Prop :=
  (j = 0 ∧ n1 = none ∧ n2 = none) ∨ (1 ≤ j ∧ j ≤ 2 ∧ (∃ g, n1 = some (g, 1, 0, false)) ∧ n2 = none) ∨ (3 ≤ j ∧ (∃ g, n1 = some (g, 1, 0, false)) ∧ ∃ g2, n2 = some (g2, j - 2, 0, false))
/-- The tallies behind j records of the second loop. -/
def S2 (k j : Nat) (n1 n2 : Option TV) : Prop :=
  (∃ g, n1 = some (g, 1, (if j = 0 then 0 else 1), decide (2 ≤ j))) ∧ ((k = 2 ∧ n2 = none) ∨ (2 < k ∧ ∃ g2, n2 = some (g2, k - 2, j - 2, false)))
theorem blk_set0 {w : World} {g : Nat} {x y z v v' : Value} {t : TypeId} (h : Blk3 w g x y z t) (hv : v = v') : Blk3 (w.setCell ⟨g, 0, none⟩ v) g v' y z t := by subst hv; exact heap_set3 h 0 v
theorem blk_set1 {w : World} {g : Nat} {x y z v v' : Value} {t : TypeId} (h : Blk3 w g x y z t) (hv : v = v') : Blk3 (w.setCell ⟨g, 1, none⟩ v) g x v' z t := by subst hv; exact heap_set3 h 1 v
theorem blk_set2 {w : World} {g : Nat} {x y z v v' : Value} {t : TypeId} (h : Blk3 w g x y z t) (hv : v = v') : Blk3 (w.setCell ⟨g, 2, none⟩ v) g x y v' t := by subst hv; exact heap_set3 h 2 v
theorem bdrewN' {B : Nat} {w w' : World} (h : Below B w w') (n : Nat) : Below B w (w'.drewN n) := ⟨h.os, h.tape, h.output, h.size, h.block⟩
def CommitsR (F : List FV) (w : World) (e : Ending) (w' : World) : Prop := ∃ g c f0, e = .returned (.slice (some ⟨g, 0, none⟩) 1 c) ∧ 1 ≤ c ∧ F[0]? = some f0 ∧ w'.cell? ⟨g, 3, none⟩ = some (.string ⟨f0.kb.toArray⟩) ∧ Below w.heap.size w w'
set_option maxRecDepth 100000 in
set_option maxHeartbeats 16000000 in
theorem Commits_any (w : World) (a : Option Addr) (k cap : Nat) (F : List FV) (hs : Fs w a k F) (hF : CmOk F) (hk : k ≤ 1000) : Calls Try.prog 11 #[.slice a k cap] w (CommitsR F w) := by
  have hk2 : 2 ≤ k := by rw [← hs.1]; exact hF.two
  have HS := Lib.hid hs
  have HF := Lib.hid hF
  have hmm := @run_makeMap Try.prog
  clear hs hF
  go_enter Try.func11, Try.ntmps11
  go_upto_region 3 with fail
  clear hmm
  have hb1 : Below w.heap.size w (w.alloc (.map #[] 0)) := (Below.refl _ _).alloc (Nat.le_refl _) _
  have hb2 := hb1.alloc hb1.size (.cells #[.map (some w.heap.size)] 53)
  have hb3 := hb2.alloc hb2.size (.cells #[.func (.func 18) #[] #[.pointer (some ⟨w.heap.size + 1, 0, none⟩)]] 57)
  have HT3 := Lib.hid (show Tl (((w.alloc (.map #[] 0)).alloc (.cells #[.map (some w.heap.size)] 53)).alloc (.cells #[.func (.func 18) #[] #[.pointer (some ⟨w.heap.size + 1, 0, none⟩)]] 57)) w.heap.size w.heap.size (w.heap.size + 1) (w.heap.size + 1 + 1) none none from by
    have m1 : TalM (w.alloc (.map #[] 0)) w.heap.size 0 (.map []) := World.ownsMap_made _ _ _ _
    have e1 : (w.alloc (.map #[] 0)).heap.size = w.heap.size + 1 := by simp
    have e2 : ((w.alloc (.map #[] 0)).alloc (.cells #[.map (some w.heap.size)] 53)).heap.size = w.heap.size + 2 := by simp
    have c1 : MapC ((w.alloc (.map #[] 0)).alloc (.cells #[.map (some w.heap.size)] 53)) (w.heap.size + 1) w.heap.size := by
      have := heap_alloc_last (w.alloc (.map #[] 0)) (.cells #[.map (some w.heap.size)] 53)
      rwa [e1] at this
    have c2 := heap_alloc_last ((w.alloc (.map #[] 0)).alloc (.cells #[.map (some w.heap.size)] 53)) (.cells #[.func (.func 18) #[] #[.pointer (some ⟨w.heap.size + 1, 0, none⟩)]] 57)
    rw [show w.heap.size + 2 = w.heap.size + 1 + 1 from rfl] at e2
    rw [e2] at c2
    exact ⟨⟨0, by simp, ownsMap_below m1 (((Below.refl _ _).alloc (Nat.le_refl _) _).alloc (by simp) _)⟩, c1.below ((Below.refl _ _).alloc (Nat.le_refl _) _), c2, Nat.le_refl _, by omega, by omega, (fun g a s d e => by cases e), (fun g a s d e => by cases e), (fun t u e _ => by cases e)⟩)
  have HB3 := Lib.hid hb3
  clear hb1 hb2 hb3
  generalize ((w.alloc (.map #[] 0)).alloc (.cells #[.map (some w.heap.size)] 53)).alloc (.cells #[.func (.func 18) #[] #[.pointer (some ⟨w.heap.size + 1, 0, none⟩)]] 57) = W3 at *
  go_wp2_with fail
  go_loopg [14] k (fun gn i wr => ∃ (j : Nat) (n1 n2 : Option TV), j ≤ k ∧ gn = k - j ∧ i = .int .i64 j ∧ Hid (Tl wr w.heap.size w.heap.size (w.heap.size + 1) (w.heap.size + 1 + 1) n1 n2) ∧ Hid (S1 j n1 n2) ∧ Hid (Below w.heap.size w wr))
  case atStart => exact ⟨0, none, none, by omega, by omega, by go_num, HT3, Lib.hid (.inl ⟨rfl, rfl, rfl⟩), HB3⟩
  case round =>
    obtain ⟨j, n1, n2, hj, rfl, rfl, HT, HS1, HB⟩ := hrel
    by_cases hlt : j < k
    · rcases HS1.out with ⟨h0, rfl, rfl⟩ | ⟨j1, j2, ⟨g1, rfl⟩, rfl⟩ | ⟨j3, ⟨g1, rfl⟩, g2, rfl⟩
      case inl =>
        obtain ⟨b, off, f, rfl, hbl, hf, _, c0, c1, c2, c3, c4, c5⟩ := Fs.get (Ss.below HS.out HB.out) j hlt
        have hff := HF.out.f0 f (by rw [← h0]; exact hf)
        obtain ⟨pos, kd, tx, kb, fa, fn, fc, ct, bb⟩ := f
        simp only at c0 c1 c2 c3 c4 c5 hff
        obtain ⟨hkd, htx⟩ := hff
        have hkk : ((kd : Int) != 3) = true := by simp; omega
        have HTX := Lib.hid htx
        clear hkd htx
        have H0 := Lib.hid h0
        clear h0
        clear hf
        go_upto_region 6 with fail
        have hal : Below wr.heap.size wr (wr.alloc (.cells #[.int .i64 pos, .int .i64 kd, .int .u32 tx, .string ⟨kb.toArray⟩, .slice fa fn fc, .int .i64 ct] 31)) := (Below.refl _ _).alloc (Nat.le_refl _) _
        have HX := Lib.hid (heap_alloc_last wr (.cells #[.int .i64 pos, .int .i64 kd, .int .u32 tx, .string ⟨kb.toArray⟩, .slice fa fn fc, .int .i64 ct] 31))
        have HBA := Lib.hid (HB.out.trans (hal.mono HB.out.size))
        have HTA := Lib.hid (HT.out.below hal)
        clear hal HB HT c0 c1 c2 c3 c4 c5
        generalize wr.alloc (.cells #[.int .i64 pos, .int .i64 kd, .int .u32 tx, .string ⟨kb.toArray⟩, .slice fa fn fc, .int .i64 ct] 31) = W1 at *
        generalize wr.heap.size = gA at *
        obtain ⟨q0, qlt⟩ := HTA.out.cpf.cell
        have x0 : W1.cell? ⟨gA, 0, none⟩ = some (.int .i64 pos) := by rw [cell_of_row W1 _ 0 _ _ _ HX.out]; rfl
        have x1 : W1.cell? ⟨gA, 1, none⟩ = some (.int .i64 kd) := by rw [cell_of_row W1 _ 1 _ _ _ HX.out]; rfl
        have x2 : W1.cell? ⟨gA, 2, none⟩ = some (.int .u32 tx) := by rw [cell_of_row W1 _ 2 _ _ _ HX.out]; rfl
        have x3 : W1.cell? ⟨gA, 3, none⟩ = some (.string ⟨kb.toArray⟩) := by rw [cell_of_row W1 _ 3 _ _ _ HX.out]; rfl
        have x4 : W1.cell? ⟨gA, 4, none⟩ = some (.slice fa fn fc) := by rw [cell_of_row W1 _ 4 _ _ _ HX.out]; rfl
        have x5 : W1.cell? ⟨gA, 5, none⟩ = some (.int .i64 ct) := by rw [cell_of_row W1 _ 5 _ _ _ HX.out]; rfl
        have HOF := Lib.hid (of1_new w W1 w.heap.size w.heap.size (w.heap.size + 1) (w.heap.size + 1 + 1) ⟨pos, kd, tx, kb, fa, fn, fc, ct, bb⟩ HTA.out HTX.out HBA.out (Nat.le_refl _))
        unfold FV.arr at HOF
        simp only at HOF
        go_wp2_with fail
        refine HOF.out.mono ?_
        rintro e w2 ⟨g, rfl, hT2, hB2⟩
        have HT2 := Lib.hid hT2
        have HB2 := Lib.hid hB2
        clear hT2 hB2 HOF HTA HBA HX q0 qlt x0 x1 x2 x3 x4 x5
        have hbx := HT2.out.t1 g 0 0 false rfl
        obtain ⟨d0, d1, d2, m0, m1, m2, dlt⟩ := hbx.1.box
        have HNT := Lib.hid (HT2.out.set1 0 (.int .i64 1) 1 0 false (blk_set0 hbx.1 (by rfl)))
        have HNB := Lib.hid (HB2.out.setCell (p := ⟨g, 0, none⟩) hbx.2 (.int .i64 1))
        clear hbx HT2 HB2
        go_wp2_with fail
        go_roundg (k - (j + 1))
        case measure => omega
        case rel => exact ⟨j + 1, _, _, by omega, by omega, by go_num, HNT, Lib.hid (.inr (.inl ⟨by omega, by have := H0.out; omega, ⟨g, rfl⟩, rfl⟩)), HNB⟩
      case inr.inl =>
        by_cases hj1 : j = 1
        · skip
          obtain ⟨b, off, f, rfl, hbl, hf, _, c0, c1, c2, c3, c4, c5⟩ := Fs.get (Ss.below HS.out HB.out) j hlt
          have hff := HF.out.f1 f (by rw [← hj1]; exact hf)
          obtain ⟨pos, kd, tx, kb, fa, fn, fc, ct, bb⟩ := f
          simp only at c0 c1 c2 c3 c4 c5 hff
          obtain ⟨hkd, htx, hct⟩ := hff
          have hkk : ((kd : Int) != 3) = false := by simp; omega
          have hcc : ((ct : Int) == 1) = true := by simp; omega
          have HTX := Lib.hid htx
          clear hkd hct htx
          have H0 := Lib.hid hj1
          clear hj1 hcc
          clear hf
          go_upto_region 6 with fail
          have hal : Below wr.heap.size wr (wr.alloc (.cells #[.int .i64 pos, .int .i64 kd, .int .u32 tx, .string ⟨kb.toArray⟩, .slice fa fn fc, .int .i64 ct] 31)) := (Below.refl _ _).alloc (Nat.le_refl _) _
          have HX := Lib.hid (heap_alloc_last wr (.cells #[.int .i64 pos, .int .i64 kd, .int .u32 tx, .string ⟨kb.toArray⟩, .slice fa fn fc, .int .i64 ct] 31))
          have HBA := Lib.hid (HB.out.trans (hal.mono HB.out.size))
          have HTA := Lib.hid (HT.out.below hal)
          clear hal HB HT c0 c1 c2 c3 c4 c5
          generalize wr.alloc (.cells #[.int .i64 pos, .int .i64 kd, .int .u32 tx, .string ⟨kb.toArray⟩, .slice fa fn fc, .int .i64 ct] 31) = W1 at *
          generalize wr.heap.size = gA at *
          obtain ⟨q0, qlt⟩ := HTA.out.cpf.cell
          have x0 : W1.cell? ⟨gA, 0, none⟩ = some (.int .i64 pos) := by rw [cell_of_row W1 _ 0 _ _ _ HX.out]; rfl
          have x1 : W1.cell? ⟨gA, 1, none⟩ = some (.int .i64 kd) := by rw [cell_of_row W1 _ 1 _ _ _ HX.out]; rfl
          have x2 : W1.cell? ⟨gA, 2, none⟩ = some (.int .u32 tx) := by rw [cell_of_row W1 _ 2 _ _ _ HX.out]; rfl
          have x3 : W1.cell? ⟨gA, 3, none⟩ = some (.string ⟨kb.toArray⟩) := by rw [cell_of_row W1 _ 3 _ _ _ HX.out]; rfl
          have x4 : W1.cell? ⟨gA, 4, none⟩ = some (.slice fa fn fc) := by rw [cell_of_row W1 _ 4 _ _ _ HX.out]; rfl
          have x5 : W1.cell? ⟨gA, 5, none⟩ = some (.int .i64 ct) := by rw [cell_of_row W1 _ 5 _ _ _ HX.out]; rfl
          go_wp2_with fail
          go_roundg (k - (j + 1))
          case measure => omega
          case rel => exact ⟨j + 1, _, _, by omega, by omega, by go_num, HTA, Lib.hid (.inr (.inl ⟨by omega, by have := H0.out; omega, ⟨g1, rfl⟩, rfl⟩)), HBA⟩
        · skip
          obtain ⟨b, off, f, rfl, hbl, hf, _, c0, c1, c2, c3, c4, c5⟩ := Fs.get (Ss.below HS.out HB.out) j hlt
          have hff := HF.out.f2 j f (by omega) hf
          obtain ⟨pos, kd, tx, kb, fa, fn, fc, ct, bb⟩ := f
          simp only at c0 c1 c2 c3 c4 c5 hff
          obtain ⟨hkd, hkd2, htx⟩ := hff
          have hkk : ((kd : Int) != 3) = true := by simp; omega
          have HTX := Lib.hid htx
          clear hkd htx
          have H0 := Lib.hid (show j = 2 by omega)
          clear hj1
          clear hf
          go_upto_region 6 with fail
          have hal : Below wr.heap.size wr (wr.alloc (.cells #[.int .i64 pos, .int .i64 kd, .int .u32 tx, .string ⟨kb.toArray⟩, .slice fa fn fc, .int .i64 ct] 31)) := (Below.refl _ _).alloc (Nat.le_refl _) _
          have HX := Lib.hid (heap_alloc_last wr (.cells #[.int .i64 pos, .int .i64 kd, .int .u32 tx, .string ⟨kb.toArray⟩, .slice fa fn fc, .int .i64 ct] 31))
          have HBA := Lib.hid (HB.out.trans (hal.mono HB.out.size))
          have HTA := Lib.hid (HT.out.below hal)
          clear hal HB HT c0 c1 c2 c3 c4 c5
          generalize wr.alloc (.cells #[.int .i64 pos, .int .i64 kd, .int .u32 tx, .string ⟨kb.toArray⟩, .slice fa fn fc, .int .i64 ct] 31) = W1 at *
          generalize wr.heap.size = gA at *
          obtain ⟨q0, qlt⟩ := HTA.out.cpf.cell
          have x0 : W1.cell? ⟨gA, 0, none⟩ = some (.int .i64 pos) := by rw [cell_of_row W1 _ 0 _ _ _ HX.out]; rfl
          have x1 : W1.cell? ⟨gA, 1, none⟩ = some (.int .i64 kd) := by rw [cell_of_row W1 _ 1 _ _ _ HX.out]; rfl
          have x2 : W1.cell? ⟨gA, 2, none⟩ = some (.int .u32 tx) := by rw [cell_of_row W1 _ 2 _ _ _ HX.out]; rfl
          have x3 : W1.cell? ⟨gA, 3, none⟩ = some (.string ⟨kb.toArray⟩) := by rw [cell_of_row W1 _ 3 _ _ _ HX.out]; rfl
          have x4 : W1.cell? ⟨gA, 4, none⟩ = some (.slice fa fn fc) := by rw [cell_of_row W1 _ 4 _ _ _ HX.out]; rfl
          have x5 : W1.cell? ⟨gA, 5, none⟩ = some (.int .i64 ct) := by rw [cell_of_row W1 _ 5 _ _ _ HX.out]; rfl
          have HOF := Lib.hid (of2_new w W1 w.heap.size w.heap.size (w.heap.size + 1) (w.heap.size + 1 + 1) (g1, 1, 0, false) ⟨pos, kd, tx, kb, fa, fn, fc, ct, bb⟩ HTA.out HTX.out HBA.out (Nat.le_refl _))
          unfold FV.arr at HOF
          simp only at HOF
          go_wp2_with fail
          refine HOF.out.mono ?_
          rintro e w2 ⟨g, rfl, hT2, hB2⟩
          have HT2 := Lib.hid hT2
          have HB2 := Lib.hid hB2
          clear hT2 hB2 HOF HTA HBA HX q0 qlt x0 x1 x2 x3 x4 x5
          have hbx := HT2.out.t2 g 0 0 false rfl
          obtain ⟨d0, d1, d2, m0, m1, m2, dlt⟩ := hbx.1.box
          have HNT := Lib.hid (HT2.out.set2 0 (.int .i64 1) 1 0 false (blk_set0 hbx.1 (by rfl)))
          have HNB := Lib.hid (HB2.out.setCell (p := ⟨g, 0, none⟩) hbx.2 (.int .i64 1))
          clear hbx HT2 HB2
          go_wp2_with fail
          go_roundg (k - (j + 1))
          case measure => omega
          case rel => exact ⟨j + 1, _, _, by omega, by omega, by go_num, HNT, Lib.hid (.inr (.inr ⟨by have := H0.out; omega, ⟨g1, rfl⟩, g, by rw [H0.out]⟩)), HNB⟩
      case inr.inr =>
        obtain ⟨b, off, f, rfl, hbl, hf, _, c0, c1, c2, c3, c4, c5⟩ := Fs.get (Ss.below HS.out HB.out) j hlt
        have hff := HF.out.f2 j f (by omega) hf
        obtain ⟨pos, kd, tx, kb, fa, fn, fc, ct, bb⟩ := f
        simp only at c0 c1 c2 c3 c4 c5 hff
        obtain ⟨hkd, hkd2, htx⟩ := hff
        have hkk : ((kd : Int) != 3) = true := by simp; omega
        have HTX := Lib.hid htx
        clear hkd htx
        clear hf
        go_upto_region 6 with fail
        have hal : Below wr.heap.size wr (wr.alloc (.cells #[.int .i64 pos, .int .i64 kd, .int .u32 tx, .string ⟨kb.toArray⟩, .slice fa fn fc, .int .i64 ct] 31)) := (Below.refl _ _).alloc (Nat.le_refl _) _
        have HX := Lib.hid (heap_alloc_last wr (.cells #[.int .i64 pos, .int .i64 kd, .int .u32 tx, .string ⟨kb.toArray⟩, .slice fa fn fc, .int .i64 ct] 31))
        have HBA := Lib.hid (HB.out.trans (hal.mono HB.out.size))
        have HTA := Lib.hid (HT.out.below hal)
        clear hal HB HT c0 c1 c2 c3 c4 c5
        generalize wr.alloc (.cells #[.int .i64 pos, .int .i64 kd, .int .u32 tx, .string ⟨kb.toArray⟩, .slice fa fn fc, .int .i64 ct] 31) = W1 at *
        generalize wr.heap.size = gA at *
        obtain ⟨q0, qlt⟩ := HTA.out.cpf.cell
        have x0 : W1.cell? ⟨gA, 0, none⟩ = some (.int .i64 pos) := by rw [cell_of_row W1 _ 0 _ _ _ HX.out]; rfl
        have x1 : W1.cell? ⟨gA, 1, none⟩ = some (.int .i64 kd) := by rw [cell_of_row W1 _ 1 _ _ _ HX.out]; rfl
        have x2 : W1.cell? ⟨gA, 2, none⟩ = some (.int .u32 tx) := by rw [cell_of_row W1 _ 2 _ _ _ HX.out]; rfl
        have x3 : W1.cell? ⟨gA, 3, none⟩ = some (.string ⟨kb.toArray⟩) := by rw [cell_of_row W1 _ 3 _ _ _ HX.out]; rfl
        have x4 : W1.cell? ⟨gA, 4, none⟩ = some (.slice fa fn fc) := by rw [cell_of_row W1 _ 4 _ _ _ HX.out]; rfl
        have x5 : W1.cell? ⟨gA, 5, none⟩ = some (.int .i64 ct) := by rw [cell_of_row W1 _ 5 _ _ _ HX.out]; rfl
        have HOF := Lib.hid (of2_have W1 w.heap.size w.heap.size (w.heap.size + 1) (w.heap.size + 1 + 1) (g1, 1, 0, false) (g2, j - 2, 0, false) ⟨pos, kd, tx, kb, fa, fn, fc, ct, bb⟩ HTA.out HTX.out)
        unfold FV.arr PtrRet at HOF
        simp only at HOF
        go_wp2_with fail
        refine HOF.out.mono ?_
        rintro e w2 ⟨rfl, hb2⟩
        have HT2 := Lib.hid (HTA.out.below hb2)
        have HB2 := Lib.hid (HBA.out.trans (hb2.mono HBA.out.size))
        obtain ⟨q, hq⟩ : ∃ q, q = j - 2 := ⟨_, rfl⟩
        rw [← hq] at HT2
        have HQ := Lib.hid hq
        have hq1 : q ≤ 1000 := by omega
        clear hq hb2 HOF HTA HBA HX q0 qlt HS1 HT3 HB3 x0 x1 x2 x3 x4 x5
        have hbx := HT2.out.t2 g2 q 0 false rfl
        obtain ⟨d0, d1, d2, m0, m1, m2, dlt⟩ := hbx.1.box
        have HNT := Lib.hid (HT2.out.set2 0 (.int .i64 ((q : Int) + 1)) (q + 1) 0 false (blk_set0 hbx.1 (by go_num)))
        have HNB := Lib.hid (HB2.out.setCell (p := ⟨g2, 0, none⟩) hbx.2 (.int .i64 ((q : Int) + 1)))
        clear hbx HT2 HB2
        go_wp2_with fail
        go_roundg (k - (j + 1))
        case measure => omega
        case rel => exact ⟨j + 1, _, _, by omega, by omega, by go_num, HNT, Lib.hid (.inr (.inr ⟨by omega, ⟨g1, rfl⟩, g2, by rw [show j + 1 - 2 = q + 1 by have := HQ.out; omega]⟩)), HNB⟩
    · obtain rfl : k = j := by omega
      have HS2 := Lib.hid (show ∃ g1, n1 = some (g1, 1, 0, false) ∧ ((k = 2 ∧ n2 = none) ∨ (2 < k ∧ ∃ g2, n2 = some (g2, k - 2, 0, false))) from by
        rcases HS1.out with ⟨h0, _⟩ | ⟨j1, j2, ⟨g1, rfl⟩, rfl⟩ | ⟨j3, ⟨g1, rfl⟩, g2, rfl⟩
        · omega
        · exact ⟨g1, rfl, .inl ⟨by omega, rfl⟩⟩
        · exact ⟨g1, rfl, .inr ⟨by omega, g2, rfl⟩⟩)
      clear HT3 HB3
      generalize wr = W4 at *
      go_wp2_with fail
      go_loopg [34] k (fun gn i wr => ∃ (j : Nat) (n1 n2 : Option TV), j ≤ k ∧ gn = k - j ∧ i = .int .i64 j ∧ Hid (Tl wr w.heap.size w.heap.size (w.heap.size + 1) (w.heap.size + 1 + 1) n1 n2) ∧ Hid (S2 k j n1 n2) ∧ Hid (Below w.heap.size w wr))
      case atStart =>
        obtain ⟨g1, rfl, h2⟩ := HS2.out
        exact ⟨0, _, _, by omega, by omega, by go_num, HT, Lib.hid ⟨⟨g1, rfl⟩, h2⟩, HB⟩
      case round =>
        clear HT HS1 HS2 HB
        obtain ⟨j, n1, n2, hj, rfl, rfl, HT, HSS, HB⟩ := hrel
        by_cases hlt : j < k
        · obtain ⟨⟨g1, rfl⟩, hn2⟩ := HSS.out
          by_cases h01 : j ≤ 1
          · by_cases h0 : j = 0
            · have HN2 := Lib.hid hn2
              clear hn2 h01 HSS
              obtain ⟨b, off, f, rfl, hbl, hf, _, c0, c1, c2, c3, c4, c5⟩ := Fs.get (Ss.below HS.out HB.out) j hlt
              have hff := HF.out.f0 f (by rw [← h0]; exact hf)
              obtain ⟨pos, kd, tx, kb, fa, fn, fc, ct, bb⟩ := f
              simp only at c0 c1 c2 c3 c4 c5 hff
              obtain ⟨hkd, htx⟩ := hff
              have hkk : ((kd : Int) != 3) = true := by simp; omega
              have HTX := Lib.hid htx
              clear hkd htx
              rw [if_pos h0, decide_eq_false (by omega)] at HT
              have H0 := Lib.hid h0
              clear h0
              clear hf
              go_upto_region 12 with fail
              have hal : Below wr.heap.size wr (wr.alloc (.cells #[.int .i64 pos, .int .i64 kd, .int .u32 tx, .string ⟨kb.toArray⟩, .slice fa fn fc, .int .i64 ct] 31)) := (Below.refl _ _).alloc (Nat.le_refl _) _
              have HX := Lib.hid (heap_alloc_last wr (.cells #[.int .i64 pos, .int .i64 kd, .int .u32 tx, .string ⟨kb.toArray⟩, .slice fa fn fc, .int .i64 ct] 31))
              have HBA := Lib.hid (HB.out.trans (hal.mono HB.out.size))
              have HTA := Lib.hid (HT.out.below hal)
              clear hal HB HT c0 c1 c2 c3 c4 c5
              generalize wr.alloc (.cells #[.int .i64 pos, .int .i64 kd, .int .u32 tx, .string ⟨kb.toArray⟩, .slice fa fn fc, .int .i64 ct] 31) = W1 at *
              generalize wr.heap.size = gA at *
              obtain ⟨q0, qlt⟩ := HTA.out.cpf.cell
              have x0 : W1.cell? ⟨gA, 0, none⟩ = some (.int .i64 pos) := by rw [cell_of_row W1 _ 0 _ _ _ HX.out]; rfl
              have x1 : W1.cell? ⟨gA, 1, none⟩ = some (.int .i64 kd) := by rw [cell_of_row W1 _ 1 _ _ _ HX.out]; rfl
              have x2 : W1.cell? ⟨gA, 2, none⟩ = some (.int .u32 tx) := by rw [cell_of_row W1 _ 2 _ _ _ HX.out]; rfl
              have x3 : W1.cell? ⟨gA, 3, none⟩ = some (.string ⟨kb.toArray⟩) := by rw [cell_of_row W1 _ 3 _ _ _ HX.out]; rfl
              have x4 : W1.cell? ⟨gA, 4, none⟩ = some (.slice fa fn fc) := by rw [cell_of_row W1 _ 4 _ _ _ HX.out]; rfl
              have x5 : W1.cell? ⟨gA, 5, none⟩ = some (.int .i64 ct) := by rw [cell_of_row W1 _ 5 _ _ _ HX.out]; rfl
              have HOF := Lib.hid (of1_have W1 w.heap.size w.heap.size (w.heap.size + 1) (w.heap.size + 1 + 1) _ n2 ⟨pos, kd, tx, kb, fa, fn, fc, ct, bb⟩ HTA.out HTX.out)
              unfold FV.arr PtrRet at HOF
              simp only at HOF
              go_wp2_with fail
              refine HOF.out.mono ?_
              rintro e w2 ⟨rfl, hb2⟩
              have HT2 := Lib.hid (HTA.out.below hb2)
              have HB2 := Lib.hid (HBA.out.trans (hb2.mono HBA.out.size))
              replace HX := Lib.hid (show w2.heap[gA]? = some (.cells #[.int .i64 pos, .int .i64 kd, .int .u32 tx, .string ⟨kb.toArray⟩, .slice fa fn fc, .int .i64 ct] 31) by rw [hb2.block gA (Array.getElem?_eq_some_iff.1 HX.out).1]; exact HX.out)
              clear hb2 HOF HTA HBA q0 qlt x0 x1 x2 x3 x4 x5
              have x1 : w2.cell? ⟨gA, 1, none⟩ = some (.int .i64 kd) := by rw [cell_of_row w2 _ 1 _ _ _ HX.out]; rfl
              have x5 : w2.cell? ⟨gA, 5, none⟩ = some (.int .i64 ct) := by rw [cell_of_row w2 _ 5 _ _ _ HX.out]; rfl
              have hbx := HT2.out.t1 g1 1 0 false rfl
              obtain ⟨d0, d1, d2, m0, m1, m2, dlt⟩ := hbx.1.box
              have HNT := Lib.hid (HT2.out.set1 1 (.int .i64 1) 1 1 false (blk_set1 hbx.1 (by rfl)))
              have HNB := Lib.hid (HB2.out.setCell (p := ⟨g1, 1, none⟩) hbx.2 (.int .i64 1))
              clear hbx HT2 HB2
              go_wp2_with fail
              go_roundg (k - (j + 1))
              case measure => omega
              case rel => exact ⟨j + 1, _, _, by omega, by omega, by go_num, HNT, Lib.hid (⟨⟨g1, by rw [if_neg (by omega), decide_eq_false (by have := H0.out; omega)]⟩, by rw [show j + 1 - 2 = j - 2 by have := H0.out; omega]; exact HN2.out⟩), HNB⟩
            · have h1 : j = 1 := by omega
              have HN2 := Lib.hid hn2
              clear hn2 h01 h0 HSS
              obtain ⟨b, off, f, rfl, hbl, hf, _, c0, c1, c2, c3, c4, c5⟩ := Fs.get (Ss.below HS.out HB.out) j hlt
              have hff := HF.out.f1 f (by rw [← h1]; exact hf)
              obtain ⟨pos, kd, tx, kb, fa, fn, fc, ct, bb⟩ := f
              simp only at c0 c1 c2 c3 c4 c5 hff
              obtain ⟨hkd, htx, hct⟩ := hff
              have hkk : ((kd : Int) != 3) = false := by simp; omega
              have hcc : ((ct : Int) == 1) = true := by simp; omega
              have HTX := Lib.hid htx
              clear hkd hct htx
              rw [if_neg (by omega), decide_eq_false (by omega)] at HT
              have H0 := Lib.hid h1
              clear h1
              clear hf
              go_upto_region 12 with fail
              have hal : Below wr.heap.size wr (wr.alloc (.cells #[.int .i64 pos, .int .i64 kd, .int .u32 tx, .string ⟨kb.toArray⟩, .slice fa fn fc, .int .i64 ct] 31)) := (Below.refl _ _).alloc (Nat.le_refl _) _
              have HX := Lib.hid (heap_alloc_last wr (.cells #[.int .i64 pos, .int .i64 kd, .int .u32 tx, .string ⟨kb.toArray⟩, .slice fa fn fc, .int .i64 ct] 31))
              have HBA := Lib.hid (HB.out.trans (hal.mono HB.out.size))
              have HTA := Lib.hid (HT.out.below hal)
              clear hal HB HT c0 c1 c2 c3 c4 c5
              generalize wr.alloc (.cells #[.int .i64 pos, .int .i64 kd, .int .u32 tx, .string ⟨kb.toArray⟩, .slice fa fn fc, .int .i64 ct] 31) = W1 at *
              generalize wr.heap.size = gA at *
              obtain ⟨q0, qlt⟩ := HTA.out.cpf.cell
              have x0 : W1.cell? ⟨gA, 0, none⟩ = some (.int .i64 pos) := by rw [cell_of_row W1 _ 0 _ _ _ HX.out]; rfl
              have x1 : W1.cell? ⟨gA, 1, none⟩ = some (.int .i64 kd) := by rw [cell_of_row W1 _ 1 _ _ _ HX.out]; rfl
              have x2 : W1.cell? ⟨gA, 2, none⟩ = some (.int .u32 tx) := by rw [cell_of_row W1 _ 2 _ _ _ HX.out]; rfl
              have x3 : W1.cell? ⟨gA, 3, none⟩ = some (.string ⟨kb.toArray⟩) := by rw [cell_of_row W1 _ 3 _ _ _ HX.out]; rfl
              have x4 : W1.cell? ⟨gA, 4, none⟩ = some (.slice fa fn fc) := by rw [cell_of_row W1 _ 4 _ _ _ HX.out]; rfl
              have x5 : W1.cell? ⟨gA, 5, none⟩ = some (.int .i64 ct) := by rw [cell_of_row W1 _ 5 _ _ _ HX.out]; rfl
              have HOF := Lib.hid (of1_have W1 w.heap.size w.heap.size (w.heap.size + 1) (w.heap.size + 1 + 1) _ n2 ⟨pos, kd, tx, kb, fa, fn, fc, ct, bb⟩ HTA.out HTX.out)
              unfold FV.arr PtrRet at HOF
              simp only at HOF
              go_wp2_with fail
              refine HOF.out.mono ?_
              rintro e w2 ⟨rfl, hb2⟩
              have HT2 := Lib.hid (HTA.out.below hb2)
              have HB2 := Lib.hid (HBA.out.trans (hb2.mono HBA.out.size))
              replace HX := Lib.hid (show w2.heap[gA]? = some (.cells #[.int .i64 pos, .int .i64 kd, .int .u32 tx, .string ⟨kb.toArray⟩, .slice fa fn fc, .int .i64 ct] 31) by rw [hb2.block gA (Array.getElem?_eq_some_iff.1 HX.out).1]; exact HX.out)
              clear hb2 HOF HTA HBA q0 qlt x0 x1 x2 x3 x4 x5
              have x1 : w2.cell? ⟨gA, 1, none⟩ = some (.int .i64 kd) := by rw [cell_of_row w2 _ 1 _ _ _ HX.out]; rfl
              have x5 : w2.cell? ⟨gA, 5, none⟩ = some (.int .i64 ct) := by rw [cell_of_row w2 _ 5 _ _ _ HX.out]; rfl
              have hbx := HT2.out.t1 g1 1 1 false rfl
              obtain ⟨d0, d1, d2, m0, m1, m2, dlt⟩ := hbx.1.box
              go_upto_region 15 with fail
              go_quiet (fail)
              have HT3' := Lib.hid (HT2.out.below (bdrewN' (Below.refl w2.heap.size w2) nq))
              have HB3' := Lib.hid (bdrewN' HB2.out nq)
              clear hbx d0 d1 d2 m0 m1 m2 dlt HT2 HB2 x1 x5 HX
              generalize w2.drewN nq = W5 at *
              have hbx := HT3'.out.t1 g1 1 1 false rfl
              obtain ⟨d0, d1, d2, m0, m1, m2, dlt⟩ := hbx.1.box
              have HNT := Lib.hid (HT3'.out.set1 2 (.bool true) 1 1 true (blk_set2 hbx.1 rfl))
              have HNB := Lib.hid (HB3'.out.setCell (p := ⟨g1, 2, none⟩) hbx.2 (.bool true))
              clear hbx HT3' HB3'
              go_wp2_with fail
              go_roundg (k - (j + 1))
              case measure => omega
              case rel => exact ⟨j + 1, _, _, by omega, by omega, by go_num, HNT, Lib.hid ⟨⟨g1, by rw [if_neg (by omega), decide_eq_true (by have := H0.out; omega)]⟩, by rw [show j + 1 - 2 = j - 2 by have := H0.out; omega]; exact HN2.out⟩, HNB⟩
          · obtain ⟨h2k, g2, rfl⟩ : 2 < k ∧ ∃ g2, n2 = some (g2, k - 2, j - 2, false) := by
              rcases hn2 with ⟨h1, _⟩ | h2
              · omega
              · exact h2
            clear hn2 HSS
            obtain ⟨b, off, f, rfl, hbl, hf, _, c0, c1, c2, c3, c4, c5⟩ := Fs.get (Ss.below HS.out HB.out) j hlt
            have hff := HF.out.f2 j f (by omega) hf
            obtain ⟨pos, kd, tx, kb, fa, fn, fc, ct, bb⟩ := f
            simp only at c0 c1 c2 c3 c4 c5 hff
            obtain ⟨hkd, hkd2, htx⟩ := hff
            have hkk : ((kd : Int) != 3) = true := by simp; omega
            have HTX := Lib.hid htx
            clear hkd htx
            rw [if_neg (by omega), decide_eq_true (show 2 ≤ j by omega)] at HT
            clear hf
            go_upto_region 12 with fail
            have hal : Below wr.heap.size wr (wr.alloc (.cells #[.int .i64 pos, .int .i64 kd, .int .u32 tx, .string ⟨kb.toArray⟩, .slice fa fn fc, .int .i64 ct] 31)) := (Below.refl _ _).alloc (Nat.le_refl _) _
            have HX := Lib.hid (heap_alloc_last wr (.cells #[.int .i64 pos, .int .i64 kd, .int .u32 tx, .string ⟨kb.toArray⟩, .slice fa fn fc, .int .i64 ct] 31))
            have HBA := Lib.hid (HB.out.trans (hal.mono HB.out.size))
            have HTA := Lib.hid (HT.out.below hal)
            clear hal HB HT c0 c1 c2 c3 c4 c5
            generalize wr.alloc (.cells #[.int .i64 pos, .int .i64 kd, .int .u32 tx, .string ⟨kb.toArray⟩, .slice fa fn fc, .int .i64 ct] 31) = W1 at *
            generalize wr.heap.size = gA at *
            obtain ⟨q0, qlt⟩ := HTA.out.cpf.cell
            have x0 : W1.cell? ⟨gA, 0, none⟩ = some (.int .i64 pos) := by rw [cell_of_row W1 _ 0 _ _ _ HX.out]; rfl
            have x1 : W1.cell? ⟨gA, 1, none⟩ = some (.int .i64 kd) := by rw [cell_of_row W1 _ 1 _ _ _ HX.out]; rfl
            have x2 : W1.cell? ⟨gA, 2, none⟩ = some (.int .u32 tx) := by rw [cell_of_row W1 _ 2 _ _ _ HX.out]; rfl
            have x3 : W1.cell? ⟨gA, 3, none⟩ = some (.string ⟨kb.toArray⟩) := by rw [cell_of_row W1 _ 3 _ _ _ HX.out]; rfl
            have x4 : W1.cell? ⟨gA, 4, none⟩ = some (.slice fa fn fc) := by rw [cell_of_row W1 _ 4 _ _ _ HX.out]; rfl
            have x5 : W1.cell? ⟨gA, 5, none⟩ = some (.int .i64 ct) := by rw [cell_of_row W1 _ 5 _ _ _ HX.out]; rfl
            have HOF := Lib.hid (of2_have W1 w.heap.size w.heap.size (w.heap.size + 1) (w.heap.size + 1 + 1) _ _ ⟨pos, kd, tx, kb, fa, fn, fc, ct, bb⟩ HTA.out HTX.out)
            unfold FV.arr PtrRet at HOF
            simp only at HOF
            go_wp2_with fail
            refine HOF.out.mono ?_
            rintro e w2 ⟨rfl, hb2⟩
            have HT2 := Lib.hid (HTA.out.below hb2)
            have HB2 := Lib.hid (HBA.out.trans (hb2.mono HBA.out.size))
            replace HX := Lib.hid (show w2.heap[gA]? = some (.cells #[.int .i64 pos, .int .i64 kd, .int .u32 tx, .string ⟨kb.toArray⟩, .slice fa fn fc, .int .i64 ct] 31) by rw [hb2.block gA (Array.getElem?_eq_some_iff.1 HX.out).1]; exact HX.out)
            clear hb2 HOF HTA HBA q0 qlt x0 x1 x2 x3 x4 x5
            have x1 : w2.cell? ⟨gA, 1, none⟩ = some (.int .i64 kd) := by rw [cell_of_row w2 _ 1 _ _ _ HX.out]; rfl
            have x5 : w2.cell? ⟨gA, 5, none⟩ = some (.int .i64 ct) := by rw [cell_of_row w2 _ 5 _ _ _ HX.out]; rfl
            obtain ⟨q, hq⟩ : ∃ q, q = j - 2 := ⟨_, rfl⟩
            rw [← hq] at HT2
            have HQ := Lib.hid hq
            have hq1 : q ≤ 1000 := by omega
            clear hq
            have hbx := HT2.out.t2 g2 (k - 2) q false rfl
            obtain ⟨d0, d1, d2, m0, m1, m2, dlt⟩ := hbx.1.box
            have HNT := Lib.hid (HT2.out.set2 1 (.int .i64 ((q : Int) + 1)) (k - 2) (q + 1) false (blk_set1 hbx.1 (by go_num)))
            have HNB := Lib.hid (HB2.out.setCell (p := ⟨g2, 1, none⟩) hbx.2 (.int .i64 ((q : Int) + 1)))
            clear hbx HT2 HB2
            go_wp2_with fail
            go_roundg (k - (j + 1))
            case measure => omega
            case rel => exact ⟨j + 1, _, _, by omega, by omega, by go_num, HNT, Lib.hid (⟨⟨g1, by rw [if_neg (by omega), decide_eq_true (by omega)]⟩, .inr ⟨h2k, g2, by rw [show j + 1 - 2 = q + 1 by have := HQ.out; omega]⟩⟩), HNB⟩
        · obtain rfl : k = j := by omega
          obtain ⟨⟨g1, rfl⟩, hn2⟩ := HSS.out
          rw [if_neg (by omega), decide_eq_true hk2] at HT
          have HN2 := Lib.hid hn2
          clear hn2 HSS
          obtain ⟨q0, qlt⟩ := HT.out.cpf.cell
          have hclone := cloneF wr a k cap F (Ss.below HS.out HB.out) (by omega) (by omega)
          go_wp2_with fail
          refine hclone.mono ?_
          rintro e w5 ⟨g, c, rfl, hown, hb5⟩
          obtain ⟨aa, cc, he, hss, hkc⟩ := Ss.ofOwn FV.cells_length (by omega) hown
          cases he
          obtain ⟨b', off', f0, e0, hbl, hf0, _, _, _, _, y3, _, _⟩ := Fs.get hss 0 (by omega)
          cases e0
          have hgl : wr.heap.size ≤ g := by
            rcases hown.2 with ⟨h1, _⟩ | ⟨g', cap', cur, hv, hB, _⟩
            · cases h1
            · cases hv; exact hB
          have hdel := deleteF w5 w.heap.size w.heap.size (w.heap.size + 1) (w.heap.size + 1 + 1) g1 n2 (HT.out.below hb5) g c k wr.heap.size F (fun h => by
            rcases HN2.out with ⟨h1, _⟩ | ⟨_, h2⟩
            · omega
            · exact h2) hown HF.out (by omega)
          have HD := Lib.hid hdel
          have HB5 := Lib.hid (HB.out.trans (hb5.mono HB.out.size))
          have HY3 := Lib.hid y3
          have HF0 := Lib.hid hf0
          have hgw : w.heap.size ≤ g := Nat.le_trans HB.out.size hgl
          clear hclone hown hss hdel hb5 y3 hf0 HN2
          go_wp2_with fail
          refine HD.out.mono ?_
          rintro e w6 ⟨rfl, hc3, hb6⟩
          go_wp2_with fail
          go_ret
          exact ⟨g, c, f0, rfl, by omega, HF0.out, by rw [hc3]; simpa using HY3.out, HB5.out.trans (hb6.mono hgw)⟩
end Go.Proofs.Ytechkdnoekffmaa
