/- asm: own texts, merged (wip/merge2.py). No condition. -/
import Derived.Test.YtclpkipaehpkdaaGreatDoorQ09AsmNames
import Derived.StillTailTactics
import Derived.Deep.LoopGhost
import Derived.Deep.DeepCutAuto
set_option linter.unusedVariables false
set_option linter.unusedSimpArgs false
namespace Go.Proofs.YtclpkipaehpkdaaGreatDoor
open Go.ChangeShapes Go.WideShapes Go.ChangeAt Go.RowKit
structure IN where
  op : Nat
  n : Int
  m : Int
  cl : List UInt8
  nm : List UInt8
  ds : List UInt8
  tx : List UInt8
abbrev InsT := 54
def IN.cells (x : IN) : List Value := [.int .u8 (x.op : Nat), .int .i64 x.n, .int .i64 x.m, .string ⟨x.cl.toArray⟩, .string ⟨x.nm.toArray⟩, .string ⟨x.ds.toArray⟩, .string ⟨x.tx.toArray⟩]
theorem IN.cells_length (x : IN) : x.cells.length = 7 := rfl
def BlkI (g : Nat) (x : IN) (w : World) : Prop := w.heap[g]? = some (.cells x.cells.toArray InsT (0, 0))
structure BoxI (w : World) (g : Nat) (x : IN) : Prop where
  c0 : w.cell? ⟨g, 0, none⟩ = some (.int .u8 (x.op : Nat))
  c1 : w.cell? ⟨g, 1, none⟩ = some (.int .i64 x.n)
  c2 : w.cell? ⟨g, 2, none⟩ = some (.int .i64 x.m)
  c3 : w.cell? ⟨g, 3, none⟩ = some (.string ⟨x.cl.toArray⟩)
  c4 : w.cell? ⟨g, 4, none⟩ = some (.string ⟨x.nm.toArray⟩)
  c5 : w.cell? ⟨g, 5, none⟩ = some (.string ⟨x.ds.toArray⟩)
  c6 : w.cell? ⟨g, 6, none⟩ = some (.string ⟨x.tx.toArray⟩)
  f1 : w.frozen? ⟨g, 1, none⟩ = false
  f2 : w.frozen? ⟨g, 2, none⟩ = false
  f3 : w.frozen? ⟨g, 3, none⟩ = false
  f4 : w.frozen? ⟨g, 4, none⟩ = false
  f5 : w.frozen? ⟨g, 5, none⟩ = false
  f6 : w.frozen? ⟨g, 6, none⟩ = false
theorem BlkI.box {g : Nat} {x : IN} {w : World} (h : BlkI g x w) : BoxI w g x :=
  ⟨row_cell h 0 rfl, row_cell h 1 rfl, row_cell h 2 rfl, row_cell h 3 rfl, row_cell h 4 rfl, row_cell h 5 rfl, row_cell h 6 rfl, row_melt h 1, row_melt h 2, row_melt h 3, row_melt h 4, row_melt h 5, row_melt h 6⟩
theorem BlkI.lt {g : Nat} {x : IN} {w : World} (h : BlkI g x w) : g < w.heap.size := row_lt h
theorem BlkI.below {g : Nat} {x : IN} {w w' : World} (h : BlkI g x w) (hb : Below w.heap.size w w') : BlkI g x w' := row_below h hb
theorem BlkI.keep {p : Nat → Prop} {g : Nat} {x : IN} {w w' : World} (h : BlkI g x w) (hk : KeepP p w w') (hp : ¬ p g) : BlkI g x w' := hk.row h hp
theorem BlkI.set1 {g : Nat} {x : IN} {w : World} (h : BlkI g x w) (v : Int) : BlkI g { x with n := v } (w.setCell ⟨g, 1, none⟩ (.int .i64 v)) := heap_set3 h 1 _
theorem BlkI.set2 {g : Nat} {x : IN} {w : World} (h : BlkI g x w) (v : Int) : BlkI g { x with m := v } (w.setCell ⟨g, 2, none⟩ (.int .i64 v)) := heap_set3 h 2 _
theorem BlkI.set3 {g : Nat} {x : IN} {w : World} (h : BlkI g x w) (v : List UInt8) : BlkI g { x with cl := v } (w.setCell ⟨g, 3, none⟩ (.string ⟨v.toArray⟩)) := heap_set3 h 3 _
theorem BlkI.set4 {g : Nat} {x : IN} {w : World} (h : BlkI g x w) (v : List UInt8) : BlkI g { x with nm := v } (w.setCell ⟨g, 4, none⟩ (.string ⟨v.toArray⟩)) := heap_set3 h 4 _
theorem BlkI.set5 {g : Nat} {x : IN} {w : World} (h : BlkI g x w) (v : List UInt8) : BlkI g { x with ds := v } (w.setCell ⟨g, 5, none⟩ (.string ⟨v.toArray⟩)) := heap_set3 h 5 _
theorem BlkI.set6 {g : Nat} {x : IN} {w : World} (h : BlkI g x w) (v : List UInt8) : BlkI g { x with tx := v } (w.setCell ⟨g, 6, none⟩ (.string ⟨v.toArray⟩)) := heap_set3 h 6 _
def conX (L : List KV) (x : IN) (at_ : Nat) : IN :=
  if (kAt L at_).tag = 3 then { x with ds := [73], n := (kAt L at_).n }
  else if (kAt L at_).tag = 5 then { x with ds := [74], n := (kAt L at_).n }
  else if (kAt L at_).tag = 8 then { x with ds := [83], tx := textAt L (kAt L at_).a }
  else x
def conC (x : IN) : Bool := !x.ds.isEmpty && (decide (x.ds = [74]) == decide (x.op = 20))
structure LfI (w : World) (g : Nat) (a : Option Addr) (n cap : Nat) (L : List KV) (er : Int) (gx : Nat) (x : IN) : Prop where
  k : LfS w g a n cap L er
  i : BlkI gx x w
  ne : gx ≠ g
  z : 0 < gx
  off : Off1 a n gx
theorem LfI.below {w w' : World} {g : Nat} {a : Option Addr} {n cap : Nat} {L : List KV} {er : Int} {gx : Nat} {x : IN} (h : LfI w g a n cap L er gx x) (hb : Below w.heap.size w w') : LfI w' g a n cap L er gx x := ⟨h.k.below hb, h.i.below hb, h.ne, h.z, h.off⟩
theorem LfI.put {w : World} {g : Nat} {a : Option Addr} {n cap : Nat} {L : List KV} {er : Int} {gx : Nat} {x x' : IN} (h : LfI w g a n cap L er gx x) (o : Nat) (v : Value) (hi : BlkI gx x' (w.setCell ⟨gx, o, none⟩ v)) : LfI (w.setCell ⟨gx, o, none⟩ v) g a n cap L er gx x' := by
  have hk : KeepP (fun k => k = gx) w (w.setCell ⟨gx, o, none⟩ v) := (KeepP.refl _ _).setg o v
  exact ⟨h.k.keep hk (fun e => h.ne e.symm) (fun e => by have := h.z; omega) (fun hn b off e => h.off hn b off e), hi, h.ne, h.z, h.off⟩
def LfiRet (g : Nat) (a : Option Addr) (n cap : Nat) (L : List KV) (er : Int) (gx : Nat) (x : IN) (w : World) (e : Ending) (w' : World) : Prop := e = .returned (.tuple #[]) ∧ LfI w' g a n cap L er gx x ∧ KeepP (fun k => k = g ∨ k = gx) w w'
def CBlk (gc : Nat) (c : KV) (w : World) : Prop := w.heap[gc]? = some (.cells c.cells.toArray 61 (0, 0))
structure BoxC (w : World) (g : Nat) (c : KV) : Prop where
  c0 : w.cell? ⟨g, 0, none⟩ = some (.int .i64 c.tag)
  c1 : w.cell? ⟨g, 1, none⟩ = some (.int .i64 c.a)
  c3 : w.cell? ⟨g, 3, none⟩ = some (.int .i64 c.n)
theorem CBlk.box {gc : Nat} {c : KV} {w : World} (h : CBlk gc c w) : BoxC w gc c := ⟨row_cell h 0 rfl, row_cell h 1 rfl, row_cell h 3 rfl⟩
def ConAt (w0 : World) (c : KV) (g : Nat) (a : Option Addr) (n cap : Nat) (L : List KV) (er : Int) (gx : Nat) (x : IN) (gc : Nat) (w : World) : Prop := LfI w g a n cap L er gx x ∧ CBlk gc c w ∧ Below w0.heap.size w0 w ∧ gc = w0.heap.size
set_option maxRecDepth 100000 in
set_option maxHeartbeats 8000000 in
theorem aconst_any (w : World) (g : Nat) (a : Option Addr) (n cap : Nat) (L : List KV) (er : Int) (gx : Nat) (x : IN) (at_ : Nat) (hat : at_ < 1048576) (h : LfI w g a n cap L er gx x) :
    Calls Tryz.prog 103 #[.pointer (some ⟨g, 0, none⟩), .pointer (some ⟨gx, 0, none⟩), .int .i64 at_] w (LfiRet g a n cap L (needE er (conC (conX L x at_)) 8) gx (conX L x at_) w) := by
  have H := Lib.hid h
  have hnn : n = L.length := h.k.ks.1.symm
  have HN := Lib.hid hnn
  have hsm := h.k.sm
  obtain ⟨c, hc⟩ : ∃ c, c = kAt L at_ := ⟨_, rfl⟩
  have HC := Lib.hid hc
  have HX := Lib.hid (show conX L x at_ = if c.tag = 3 then { x with ds := [73], n := c.n } else if c.tag = 5 then { x with ds := [74], n := c.n } else if c.tag = 8 then { x with ds := [83], tx := textAt L c.a } else x by rw [hc]; rfl)
  obtain ⟨x', hx'⟩ : ∃ x', x' = conX L x at_ := ⟨_, rfl⟩
  rw [← hx'] at HX ⊢
  obtain ⟨k0, k1, q0, q1, klt⟩ := h.k.k.box
  have hb0 : (0 : Int) ≤ at_ := by omega
  have hb2 : (at_ : Int) < 1048576 := by omega
  clear h hc hx' hnn
  by_cases hlt : at_ < n
  · have hl1 : (at_ : Int) < n := by omega
    obtain ⟨b1, o1, rfl, hb1, p⟩ := H.out.k.ks.at at_ hlt
    rw [← HC.out] at p
    obtain ⟨p0, p1, p2, p3, p4⟩ := p
    clear hlt
    go_enter Tryz.func103, Tryz.ntmps103
    go_upto_region 3 with fail
    have hbA : Below w.heap.size w (w.alloc (.cells #[.int .i64 c.tag, .int .i64 c.a, .int .i64 c.b, .int .i64 c.n, .string ⟨c.s.toArray⟩] 61)) := (Below.refl _ _).alloc (Nat.le_refl _) _
    have HCA := Lib.hid (show ConAt w c g (some ⟨b1, o1, none⟩) n cap L er gx x w.heap.size (w.alloc (.cells #[.int .i64 c.tag, .int .i64 c.a, .int .i64 c.b, .int .i64 c.n, .string ⟨c.s.toArray⟩] 61)) from ⟨H.out.below hbA, heap_alloc_last w _, hbA, rfl⟩)
    generalize (some ⟨b1, o1, none⟩ : Option Addr) = a at *
    generalize w.alloc (.cells #[.int .i64 c.tag, .int .i64 c.a, .int .i64 c.b, .int .i64 c.n, .string ⟨c.s.toArray⟩] 61) = W at *
    clear hbA p0 p1 p2 p3 p4 k0 k1 q0 q1 klt hb0 hb2 hl1 hb1
    generalize w.heap.size = gc at *
    have HNE := Lib.hid (show gc ≠ gx by have := HCA.out.2.2.2; have := H.out.i.lt; omega)
    obtain ⟨p0, p1, p3⟩ := HCA.out.2.1.box
    by_cases h3 : c.tag = 3
    · have e3 : (c.tag == 3) = true := by rw [h3]; rfl
      have HXE := Lib.hid (show x' = { x with ds := [73], n := c.n } by rw [HX.out, if_pos h3])
      clear HX h3
      have hlf0 := HCA.out.1
      obtain ⟨i0, i1, i2, i3, i4, i5, i6, f1, f2, f3, f4, f5, f6⟩ := hlf0.i.box
      have lc : ∀ w', CBlk gc c w' → w'.cell? ⟨gc, 3, none⟩ = some (.int .i64 c.n) := fun w' h => h.box.c3
      go_upto_region 5 with fail
      have hSw : CBlk gc c W.drew := HCA.out.2.1
      refine wp_region_lexS (CBlk gc c) (.of [(0, true), (1, true), (2, true), (3, true), (4, true), (5, true), (6, false), (7, true), (8, true), (9, false)] (.stir [])) (by kernel_rfl) (by kernel_rfl) (fun c a d v w h => by cases d <;> exact h) ?_
      iterate 6
        refine lexS_step (fun K hK => ?_)
        simp only [lexOp, List.getElem?_toArray, List.getElem?_cons_succ, List.getElem?_cons_zero]
        rw [if_pos (by rfl)]
        apply Exists.intro
        refine ⟨fun w' hS' => ?_, hSw, ?_⟩
        · first | (go_simp <;> with_reducible rfl) | (go_simp; go_bits; with_reducible rfl)
        go_simp
        try go_bits
        refine hK _ _ ?_
        clear hK K
      refine lexS_step (fun K hK => ?_)
      simp only [lexOp, List.getElem?_toArray, List.getElem?_cons_succ, List.getElem?_cons_zero]
      rw [if_pos (by rfl)]
      go_step
      have hl1 : LfI (W.drew.setCell ⟨gx, 5, none⟩ (.string ⟨#[73]⟩)) g a n cap L er gx { x with ds := [73] } := (HCA.out.1.below ((Below.refl _ _).drew)).put 5 _ ((HCA.out.1.i.below ((Below.refl _ _).drew)).set5 [73])
      have hc1 : CBlk gc c (W.drew.setCell ⟨gx, 5, none⟩ (.string ⟨#[73]⟩)) := heap_other HCA.out.2.1 HNE.out _ _
      have hk1 : KeepP (fun k => k = g ∨ k = gx) w (W.drew.setCell ⟨gx, 5, none⟩ (.string ⟨#[73]⟩)) := ((KeepP.of HCA.out.2.2.1).trans (KeepP.of ((Below.refl _ _).drew))).set (.inl (.inr rfl)) 5 _
      first | refine ⟨hc1, hK _ _ ?_⟩ | skip
      clear hK K i0 i1 i2 i3 i4 i5 i6 f1 f2 f3 f4 f5 f6
      change wpLexS _ _ _ _ _ _ (W.drew.setCell ⟨gx, 5, none⟩ (.string ⟨#[73]⟩))
      generalize W.drew.setCell ⟨gx, 5, none⟩ (.string ⟨#[73]⟩) = W1 at *
      have hSw : CBlk gc c W1 := hc1
      obtain ⟨i0, i1, i2, i3, i4, i5, i6, f1, f2, f3, f4, f5, f6⟩ := hl1.i.box
      iterate 2
        refine lexS_step (fun K hK => ?_)
        simp only [lexOp, List.getElem?_toArray, List.getElem?_cons_succ, List.getElem?_cons_zero]
        rw [if_pos (by rfl)]
        apply Exists.intro
        refine ⟨fun w' hS' => ?_, hSw, ?_⟩
        · first | (go_simp <;> with_reducible rfl) | (go_simp; go_bits; with_reducible rfl)
        go_simp
        try go_bits
        refine hK _ _ ?_
        clear hK K
      refine lexS_step (fun K hK => ?_)
      simp only [lexOp, List.getElem?_toArray, List.getElem?_cons_succ, List.getElem?_cons_zero]
      rw [if_pos (by rfl)]
      go_step
      have hl2 : LfI (W1.setCell ⟨gx, 1, none⟩ (.int .i64 c.n)) g a n cap L er gx x' := by
        have := hl1.put 1 (.int .i64 c.n) (hl1.i.set1 c.n)
        rw [HXE.out]
        exact this
      have hc2 : CBlk gc c (W1.setCell ⟨gx, 1, none⟩ (.int .i64 c.n)) := heap_other hc1 HNE.out _ _
      have hk2 : KeepP (fun k => k = g ∨ k = gx) w (W1.setCell ⟨gx, 1, none⟩ (.int .i64 c.n)) := hk1.set (.inl (.inr rfl)) 1 _
      first | refine ⟨hc2, hK _ _ ?_⟩ | skip
      clear hK K i0 i1 i2 i3 i4 i5 i6 f1 f2 f3 f4 f5 f6
      generalize W1.setCell ⟨gx, 1, none⟩ (.int .i64 c.n) = W2 at *
      refine lexS_stir (EqWc W2) (fun y hy => by obtain rfl : y = W2 := hy; exact hc2) rfl ?_
      refine stir_nil (fun yy hy => ?_)
      obtain rfl : W2 = yy := Eq.symm hy
      have HL := Lib.hid hl2
      have HK := Lib.hid hk2
      clear hl1 hc1 hk1 hl2 hc2 hk2 lc hlf0
      obtain ⟨i0, i1, i2, i3, i4, i5, i6, f1, f2, f3, f4, f5, f6⟩ := HL.out.i.box
      obtain ⟨D, hD⟩ : ∃ D, D = x'.ds := ⟨_, rfl⟩
      have li0 : ∀ w', BlkI gx x' w' → w'.cell? ⟨gx, 0, none⟩ = some (.int .u8 (x'.op : Nat)) := fun w' h => h.box.c0
      have li5 : ∀ w', BlkI gx x' w' → w'.cell? ⟨gx, 5, none⟩ = some (.string ⟨D.toArray⟩) := fun w' h => by rw [hD]; exact h.box.c5
      have HCC := Lib.hid (show conC x' = (!D.isEmpty && (decide (D = [74]) == decide (x'.op = 20))) by rw [hD]; rfl)
      have HNE2 := Lib.hid (fun ok => aneed_any W2.drew g a n cap L er ok 8 (HL.out.k.below ((Below.refl _ _).drew)))
      generalize conC x' = CC at *
      generalize x'.op = xo at *
      clear hD i0 i1 i2 i3 i4 i5 i6 f1 f2 f3 f4 f5 f6
      go_upto_region 10 with fail
      cases D with
      | nil =>
        have hCC : CC = false := HCC.out
        subst hCC
        have hSw : BlkI gx x' W2.drew := HL.out.i
        refine wp_region_lexS (BlkI gx x') (.of [(0, true), (1, true), (2, true), (3, true), (4, true), (5, true), (6, true), (7, true), (8, true), (9, true), (10, true), (11, true), (12, true), (13, true), (14, true), (15, true), (16, true), (17, true), (18, true), (19, false)] (.stir [])) (by kernel_rfl) (by kernel_rfl) (fun c a d v w h => by cases d <;> exact h) ?_
        iterate 7
          refine lexS_step (fun K hK => ?_)
          simp only [lexOp, List.getElem?_toArray, List.getElem?_cons_succ, List.getElem?_cons_zero]
          rw [if_pos (by rfl)]
          apply Exists.intro
          refine ⟨fun w' hS' => ?_, hSw, ?_⟩
          · first | (go_simp <;> with_reducible rfl) | (go_simp; go_bits; with_reducible rfl)
          go_simp
          try go_bits
          refine hK _ _ ?_
          clear hK K
        iterate 11
          refine lexS_step (fun K hK => ?_)
          simp only [lexOp, List.getElem?_toArray, List.getElem?_cons_succ, List.getElem?_cons_zero]
          rw [if_neg (Bool.eq_false_iff.1 (by rfl))]
          refine ⟨hSw, ?_⟩
          go_simp
          refine hK _ _ ?_
          clear hK K
        iterate 1
          refine lexS_step (fun K hK => ?_)
          simp only [lexOp, List.getElem?_toArray, List.getElem?_cons_succ, List.getElem?_cons_zero]
          rw [if_pos (by rfl)]
          apply Exists.intro
          refine ⟨fun w' hS' => ?_, hSw, ?_⟩
          · first | (go_simp <;> with_reducible rfl) | (go_simp; go_bits; with_reducible rfl)
          go_simp
          try go_bits
          refine hK _ _ ?_
          clear hK K
        refine lexS_step (fun K hK => ?_)
        simp only [lexOp, List.getElem?_toArray, List.getElem?_cons_succ, List.getElem?_cons_zero]
        rw [if_pos (by rfl)]
        go_step
        refine (HNE2.out false).mono ?_
        rintro e W3 ⟨rfl, h3, k3⟩
        have HL3 := Lib.hid (show LfI W3 g a n cap L (needE er false 8) gx x' from ⟨h3, (HL.out.i.below ((Below.refl _ _).drew)).keep k3 HL.out.ne, HL.out.ne, HL.out.z, HL.out.off⟩)
        have HK3 := Lib.hid ((HK.out.trans (KeepP.of ((Below.refl _ _).drew))).trans (k3.weak (fun k _ e => Or.inl e)))
        clear h3 k3
        go_simp
        first | refine ⟨HL3.out.i, hK _ _ ?_⟩ | skip
        clear hK K
        refine lexS_stir (EqWc W3) (fun y hy => by obtain rfl : y = W3 := hy; exact HL3.out.i) rfl ?_
        refine stir_nil (fun yy hy => ?_)
        obtain rfl : W3 = yy := Eq.symm hy
        go_wp2_with fail
        go_end0
        exact ⟨rfl, HL3.out, HK3.out⟩
      | cons d0 D0 =>
        obtain ⟨y74, hy74⟩ : ∃ y, y = decide (d0 :: D0 = [74]) := ⟨_, rfl⟩
        obtain ⟨y20, hy20⟩ : ∃ y, y = decide (xo = 20) := ⟨_, rfl⟩
        have e74 : (d0 :: D0 == [74]) = y74 := by rw [hy74, Bool.eq_iff_iff, beq_iff_eq, decide_eq_true_iff]
        have e20 : ((xo : Int) == 20) = y20 := by rw [hy20, Bool.eq_iff_iff, beq_iff_eq, decide_eq_true_iff]; omega
        have hCC : CC = (y74 == y20) := by rw [HCC.out, hy74, hy20]; rfl
        subst hCC
        clear hy74 hy20 HCC
        have hSw : BlkI gx x' W2.drew := HL.out.i
        refine wp_region_lexS (BlkI gx x') (.of [(0, true), (1, true), (2, true), (3, true), (4, true), (5, true), (6, true), (7, true), (8, true), (9, true), (10, true), (11, true), (12, true), (13, true), (14, true), (15, true), (16, true), (17, true), (18, true), (19, false)] (.stir [])) (by kernel_rfl) (by kernel_rfl) (fun c a d v w h => by cases d <;> exact h) ?_
        iterate 19
          refine lexS_step (fun K hK => ?_)
          simp only [lexOp, List.getElem?_toArray, List.getElem?_cons_succ, List.getElem?_cons_zero]
          rw [if_pos (by rfl)]
          apply Exists.intro
          refine ⟨fun w' hS' => ?_, hSw, ?_⟩
          · first | (go_simp <;> with_reducible rfl) | (go_simp; go_bits; with_reducible rfl)
          go_simp
          try go_bits
          refine hK _ _ ?_
          clear hK K
        refine lexS_step (fun K hK => ?_)
        simp only [lexOp, List.getElem?_toArray, List.getElem?_cons_succ, List.getElem?_cons_zero]
        rw [if_pos (by rfl)]
        go_step
        refine (HNE2.out (y74 == y20)).mono ?_
        rintro e W3 ⟨rfl, h3, k3⟩
        have HL3 := Lib.hid (show LfI W3 g a n cap L (needE er (y74 == y20) 8) gx x' from ⟨h3, (HL.out.i.below ((Below.refl _ _).drew)).keep k3 HL.out.ne, HL.out.ne, HL.out.z, HL.out.off⟩)
        have HK3 := Lib.hid ((HK.out.trans (KeepP.of ((Below.refl _ _).drew))).trans (k3.weak (fun k _ e => Or.inl e)))
        clear h3 k3
        go_simp
        first | refine ⟨HL3.out.i, hK _ _ ?_⟩ | skip
        clear hK K
        refine lexS_stir (EqWc W3) (fun y hy => by obtain rfl : y = W3 := hy; exact HL3.out.i) rfl ?_
        refine stir_nil (fun yy hy => ?_)
        obtain rfl : W3 = yy := Eq.symm hy
        go_wp2_with fail
        go_end0
        exact ⟨rfl, HL3.out, HK3.out⟩
    · have e3 : (c.tag == 3) = false := by simpa using h3
      by_cases h5 : c.tag = 5
      · have e5 : (c.tag == 5) = true := by rw [h5]; rfl
        have HXE := Lib.hid (show x' = { x with ds := [74], n := c.n } by rw [HX.out, if_neg h3, if_pos h5])
        clear HX h3 h5
        have hlf0 := HCA.out.1
        obtain ⟨i0, i1, i2, i3, i4, i5, i6, f1, f2, f3, f4, f5, f6⟩ := hlf0.i.box
        have lc : ∀ w', CBlk gc c w' → w'.cell? ⟨gc, 3, none⟩ = some (.int .i64 c.n) := fun w' h => h.box.c3
        go_upto_region 7 with fail
        have hSw : CBlk gc c W.drew := HCA.out.2.1
        refine wp_region_lexS (CBlk gc c) (.of [(0, true), (1, true), (2, true), (3, true), (4, true), (5, true), (6, false), (7, true), (8, true), (9, false)] (.stir [])) (by kernel_rfl) (by kernel_rfl) (fun c a d v w h => by cases d <;> exact h) ?_
        iterate 6
          refine lexS_step (fun K hK => ?_)
          simp only [lexOp, List.getElem?_toArray, List.getElem?_cons_succ, List.getElem?_cons_zero]
          rw [if_pos (by rfl)]
          apply Exists.intro
          refine ⟨fun w' hS' => ?_, hSw, ?_⟩
          · first | (go_simp <;> with_reducible rfl) | (go_simp; go_bits; with_reducible rfl)
          go_simp
          try go_bits
          refine hK _ _ ?_
          clear hK K
        refine lexS_step (fun K hK => ?_)
        simp only [lexOp, List.getElem?_toArray, List.getElem?_cons_succ, List.getElem?_cons_zero]
        rw [if_pos (by rfl)]
        go_step
        have hl1 : LfI (W.drew.setCell ⟨gx, 5, none⟩ (.string ⟨#[74]⟩)) g a n cap L er gx { x with ds := [74] } := (HCA.out.1.below ((Below.refl _ _).drew)).put 5 _ ((HCA.out.1.i.below ((Below.refl _ _).drew)).set5 [74])
        have hc1 : CBlk gc c (W.drew.setCell ⟨gx, 5, none⟩ (.string ⟨#[74]⟩)) := heap_other HCA.out.2.1 HNE.out _ _
        have hk1 : KeepP (fun k => k = g ∨ k = gx) w (W.drew.setCell ⟨gx, 5, none⟩ (.string ⟨#[74]⟩)) := ((KeepP.of HCA.out.2.2.1).trans (KeepP.of ((Below.refl _ _).drew))).set (.inl (.inr rfl)) 5 _
        first | refine ⟨hc1, hK _ _ ?_⟩ | skip
        clear hK K i0 i1 i2 i3 i4 i5 i6 f1 f2 f3 f4 f5 f6
        change wpLexS _ _ _ _ _ _ (W.drew.setCell ⟨gx, 5, none⟩ (.string ⟨#[74]⟩))
        generalize W.drew.setCell ⟨gx, 5, none⟩ (.string ⟨#[74]⟩) = W1 at *
        have hSw : CBlk gc c W1 := hc1
        obtain ⟨i0, i1, i2, i3, i4, i5, i6, f1, f2, f3, f4, f5, f6⟩ := hl1.i.box
        iterate 2
          refine lexS_step (fun K hK => ?_)
          simp only [lexOp, List.getElem?_toArray, List.getElem?_cons_succ, List.getElem?_cons_zero]
          rw [if_pos (by rfl)]
          apply Exists.intro
          refine ⟨fun w' hS' => ?_, hSw, ?_⟩
          · first | (go_simp <;> with_reducible rfl) | (go_simp; go_bits; with_reducible rfl)
          go_simp
          try go_bits
          refine hK _ _ ?_
          clear hK K
        refine lexS_step (fun K hK => ?_)
        simp only [lexOp, List.getElem?_toArray, List.getElem?_cons_succ, List.getElem?_cons_zero]
        rw [if_pos (by rfl)]
        go_step
        have hl2 : LfI (W1.setCell ⟨gx, 1, none⟩ (.int .i64 c.n)) g a n cap L er gx x' := by
          have := hl1.put 1 (.int .i64 c.n) (hl1.i.set1 c.n)
          rw [HXE.out]
          exact this
        have hc2 : CBlk gc c (W1.setCell ⟨gx, 1, none⟩ (.int .i64 c.n)) := heap_other hc1 HNE.out _ _
        have hk2 : KeepP (fun k => k = g ∨ k = gx) w (W1.setCell ⟨gx, 1, none⟩ (.int .i64 c.n)) := hk1.set (.inl (.inr rfl)) 1 _
        first | refine ⟨hc2, hK _ _ ?_⟩ | skip
        clear hK K i0 i1 i2 i3 i4 i5 i6 f1 f2 f3 f4 f5 f6
        generalize W1.setCell ⟨gx, 1, none⟩ (.int .i64 c.n) = W2 at *
        refine lexS_stir (EqWc W2) (fun y hy => by obtain rfl : y = W2 := hy; exact hc2) rfl ?_
        refine stir_nil (fun yy hy => ?_)
        obtain rfl : W2 = yy := Eq.symm hy
        have HL := Lib.hid hl2
        have HK := Lib.hid hk2
        clear hl1 hc1 hk1 hl2 hc2 hk2 lc hlf0
        obtain ⟨i0, i1, i2, i3, i4, i5, i6, f1, f2, f3, f4, f5, f6⟩ := HL.out.i.box
        obtain ⟨D, hD⟩ : ∃ D, D = x'.ds := ⟨_, rfl⟩
        have li0 : ∀ w', BlkI gx x' w' → w'.cell? ⟨gx, 0, none⟩ = some (.int .u8 (x'.op : Nat)) := fun w' h => h.box.c0
        have li5 : ∀ w', BlkI gx x' w' → w'.cell? ⟨gx, 5, none⟩ = some (.string ⟨D.toArray⟩) := fun w' h => by rw [hD]; exact h.box.c5
        have HCC := Lib.hid (show conC x' = (!D.isEmpty && (decide (D = [74]) == decide (x'.op = 20))) by rw [hD]; rfl)
        have HNE2 := Lib.hid (fun ok => aneed_any W2.drew g a n cap L er ok 8 (HL.out.k.below ((Below.refl _ _).drew)))
        generalize conC x' = CC at *
        generalize x'.op = xo at *
        clear hD i0 i1 i2 i3 i4 i5 i6 f1 f2 f3 f4 f5 f6
        go_upto_region 10 with fail
        cases D with
        | nil =>
          have hCC : CC = false := HCC.out
          subst hCC
          have hSw : BlkI gx x' W2.drew := HL.out.i
          refine wp_region_lexS (BlkI gx x') (.of [(0, true), (1, true), (2, true), (3, true), (4, true), (5, true), (6, true), (7, true), (8, true), (9, true), (10, true), (11, true), (12, true), (13, true), (14, true), (15, true), (16, true), (17, true), (18, true), (19, false)] (.stir [])) (by kernel_rfl) (by kernel_rfl) (fun c a d v w h => by cases d <;> exact h) ?_
          iterate 7
            refine lexS_step (fun K hK => ?_)
            simp only [lexOp, List.getElem?_toArray, List.getElem?_cons_succ, List.getElem?_cons_zero]
            rw [if_pos (by rfl)]
            apply Exists.intro
            refine ⟨fun w' hS' => ?_, hSw, ?_⟩
            · first | (go_simp <;> with_reducible rfl) | (go_simp; go_bits; with_reducible rfl)
            go_simp
            try go_bits
            refine hK _ _ ?_
            clear hK K
          iterate 11
            refine lexS_step (fun K hK => ?_)
            simp only [lexOp, List.getElem?_toArray, List.getElem?_cons_succ, List.getElem?_cons_zero]
            rw [if_neg (Bool.eq_false_iff.1 (by rfl))]
            refine ⟨hSw, ?_⟩
            go_simp
            refine hK _ _ ?_
            clear hK K
          iterate 1
            refine lexS_step (fun K hK => ?_)
            simp only [lexOp, List.getElem?_toArray, List.getElem?_cons_succ, List.getElem?_cons_zero]
            rw [if_pos (by rfl)]
            apply Exists.intro
            refine ⟨fun w' hS' => ?_, hSw, ?_⟩
            · first | (go_simp <;> with_reducible rfl) | (go_simp; go_bits; with_reducible rfl)
            go_simp
            try go_bits
            refine hK _ _ ?_
            clear hK K
          refine lexS_step (fun K hK => ?_)
          simp only [lexOp, List.getElem?_toArray, List.getElem?_cons_succ, List.getElem?_cons_zero]
          rw [if_pos (by rfl)]
          go_step
          refine (HNE2.out false).mono ?_
          rintro e W3 ⟨rfl, h3, k3⟩
          have HL3 := Lib.hid (show LfI W3 g a n cap L (needE er false 8) gx x' from ⟨h3, (HL.out.i.below ((Below.refl _ _).drew)).keep k3 HL.out.ne, HL.out.ne, HL.out.z, HL.out.off⟩)
          have HK3 := Lib.hid ((HK.out.trans (KeepP.of ((Below.refl _ _).drew))).trans (k3.weak (fun k _ e => Or.inl e)))
          clear h3 k3
          go_simp
          first | refine ⟨HL3.out.i, hK _ _ ?_⟩ | skip
          clear hK K
          refine lexS_stir (EqWc W3) (fun y hy => by obtain rfl : y = W3 := hy; exact HL3.out.i) rfl ?_
          refine stir_nil (fun yy hy => ?_)
          obtain rfl : W3 = yy := Eq.symm hy
          go_wp2_with fail
          go_end0
          exact ⟨rfl, HL3.out, HK3.out⟩
        | cons d0 D0 =>
          obtain ⟨y74, hy74⟩ : ∃ y, y = decide (d0 :: D0 = [74]) := ⟨_, rfl⟩
          obtain ⟨y20, hy20⟩ : ∃ y, y = decide (xo = 20) := ⟨_, rfl⟩
          have e74 : (d0 :: D0 == [74]) = y74 := by rw [hy74, Bool.eq_iff_iff, beq_iff_eq, decide_eq_true_iff]
          have e20 : ((xo : Int) == 20) = y20 := by rw [hy20, Bool.eq_iff_iff, beq_iff_eq, decide_eq_true_iff]; omega
          have hCC : CC = (y74 == y20) := by rw [HCC.out, hy74, hy20]; rfl
          subst hCC
          clear hy74 hy20 HCC
          have hSw : BlkI gx x' W2.drew := HL.out.i
          refine wp_region_lexS (BlkI gx x') (.of [(0, true), (1, true), (2, true), (3, true), (4, true), (5, true), (6, true), (7, true), (8, true), (9, true), (10, true), (11, true), (12, true), (13, true), (14, true), (15, true), (16, true), (17, true), (18, true), (19, false)] (.stir [])) (by kernel_rfl) (by kernel_rfl) (fun c a d v w h => by cases d <;> exact h) ?_
          iterate 19
            refine lexS_step (fun K hK => ?_)
            simp only [lexOp, List.getElem?_toArray, List.getElem?_cons_succ, List.getElem?_cons_zero]
            rw [if_pos (by rfl)]
            apply Exists.intro
            refine ⟨fun w' hS' => ?_, hSw, ?_⟩
            · first | (go_simp <;> with_reducible rfl) | (go_simp; go_bits; with_reducible rfl)
            go_simp
            try go_bits
            refine hK _ _ ?_
            clear hK K
          refine lexS_step (fun K hK => ?_)
          simp only [lexOp, List.getElem?_toArray, List.getElem?_cons_succ, List.getElem?_cons_zero]
          rw [if_pos (by rfl)]
          go_step
          refine (HNE2.out (y74 == y20)).mono ?_
          rintro e W3 ⟨rfl, h3, k3⟩
          have HL3 := Lib.hid (show LfI W3 g a n cap L (needE er (y74 == y20) 8) gx x' from ⟨h3, (HL.out.i.below ((Below.refl _ _).drew)).keep k3 HL.out.ne, HL.out.ne, HL.out.z, HL.out.off⟩)
          have HK3 := Lib.hid ((HK.out.trans (KeepP.of ((Below.refl _ _).drew))).trans (k3.weak (fun k _ e => Or.inl e)))
          clear h3 k3
          go_simp
          first | refine ⟨HL3.out.i, hK _ _ ?_⟩ | skip
          clear hK K
          refine lexS_stir (EqWc W3) (fun y hy => by obtain rfl : y = W3 := hy; exact HL3.out.i) rfl ?_
          refine stir_nil (fun yy hy => ?_)
          obtain rfl : W3 = yy := Eq.symm hy
          go_wp2_with fail
          go_end0
          exact ⟨rfl, HL3.out, HK3.out⟩
      · have e5 : (c.tag == 5) = false := by simpa using h5
        by_cases h8 : c.tag = 8
        · have e8 : (c.tag == 8) = true := by rw [h8]; rfl
          have HXE := Lib.hid (show x' = { x with ds := [83], tx := textAt L c.a } by rw [HX.out, if_neg h3, if_neg h5, if_pos h8])
          have HT := Lib.hid (atext_any W g a n cap L er c.a HCA.out.1.k)
          obtain ⟨i0, i1, i2, i3, i4, i5, i6, f1, f2, f3, f4, f5, f6⟩ := HCA.out.1.i.box
          generalize textAt L c.a = s at *
          clear HX h3 h5 h8
          go_wp2_with fail
          refine HT.out.mono ?_
          rintro e W0 ⟨rfl, rfl⟩
          go_upto_region 10 with fail
          have hl1 := HCA.out.1.put 5 (.string ⟨[83].toArray⟩) (HCA.out.1.i.set5 [83])
          have hl2 := hl1.put 6 (.string ⟨s.toArray⟩) (hl1.i.set6 s)
          have HL := Lib.hid (show LfI ((W0.setCell ⟨gx, 5, none⟩ (.string ⟨#[83]⟩)).setCell ⟨gx, 6, none⟩ (.string ⟨s.toArray⟩)) g a n cap L er gx x' by rw [HXE.out]; exact hl2)
          have HK := Lib.hid (show KeepP (fun k => k = g ∨ k = gx) w ((W0.setCell ⟨gx, 5, none⟩ (.string ⟨#[83]⟩)).setCell ⟨gx, 6, none⟩ (.string ⟨s.toArray⟩)) from ((KeepP.of HCA.out.2.2.1).set (.inl (.inr rfl)) 5 _).set (.inl (.inr rfl)) 6 _)
          clear hl1 hl2 i0 i1 i2 i3 i4 i5 i6 f1 f2 f3 f4 f5 f6
          generalize (W0.setCell ⟨gx, 5, none⟩ (.string ⟨#[83]⟩)).setCell ⟨gx, 6, none⟩ (.string ⟨s.toArray⟩) = W2 at *
          obtain ⟨i0, i1, i2, i3, i4, i5, i6, f1, f2, f3, f4, f5, f6⟩ := HL.out.i.box
          obtain ⟨D, hD⟩ : ∃ D, D = x'.ds := ⟨_, rfl⟩
          have li0 : ∀ w', BlkI gx x' w' → w'.cell? ⟨gx, 0, none⟩ = some (.int .u8 (x'.op : Nat)) := fun w' h => h.box.c0
          have li5 : ∀ w', BlkI gx x' w' → w'.cell? ⟨gx, 5, none⟩ = some (.string ⟨D.toArray⟩) := fun w' h => by rw [hD]; exact h.box.c5
          have HCC := Lib.hid (show conC x' = (!D.isEmpty && (decide (D = [74]) == decide (x'.op = 20))) by rw [hD]; rfl)
          have HNE2 := Lib.hid (fun ok => aneed_any W2.drew g a n cap L er ok 8 (HL.out.k.below ((Below.refl _ _).drew)))
          generalize conC x' = CC at *
          generalize x'.op = xo at *
          clear hD i0 i1 i2 i3 i4 i5 i6 f1 f2 f3 f4 f5 f6
          go_upto_region 10 with fail
          cases D with
          | nil =>
            have hCC : CC = false := HCC.out
            subst hCC
            have hSw : BlkI gx x' W2.drew := HL.out.i
            refine wp_region_lexS (BlkI gx x') (.of [(0, true), (1, true), (2, true), (3, true), (4, true), (5, true), (6, true), (7, true), (8, true), (9, true), (10, true), (11, true), (12, true), (13, true), (14, true), (15, true), (16, true), (17, true), (18, true), (19, false)] (.stir [])) (by kernel_rfl) (by kernel_rfl) (fun c a d v w h => by cases d <;> exact h) ?_
            iterate 7
              refine lexS_step (fun K hK => ?_)
              simp only [lexOp, List.getElem?_toArray, List.getElem?_cons_succ, List.getElem?_cons_zero]
              rw [if_pos (by rfl)]
              apply Exists.intro
              refine ⟨fun w' hS' => ?_, hSw, ?_⟩
              · first | (go_simp <;> with_reducible rfl) | (go_simp; go_bits; with_reducible rfl)
              go_simp
              try go_bits
              refine hK _ _ ?_
              clear hK K
            iterate 11
              refine lexS_step (fun K hK => ?_)
              simp only [lexOp, List.getElem?_toArray, List.getElem?_cons_succ, List.getElem?_cons_zero]
              rw [if_neg (Bool.eq_false_iff.1 (by rfl))]
              refine ⟨hSw, ?_⟩
              go_simp
              refine hK _ _ ?_
              clear hK K
            iterate 1
              refine lexS_step (fun K hK => ?_)
              simp only [lexOp, List.getElem?_toArray, List.getElem?_cons_succ, List.getElem?_cons_zero]
              rw [if_pos (by rfl)]
              apply Exists.intro
              refine ⟨fun w' hS' => ?_, hSw, ?_⟩
              · first | (go_simp <;> with_reducible rfl) | (go_simp; go_bits; with_reducible rfl)
              go_simp
              try go_bits
              refine hK _ _ ?_
              clear hK K
            refine lexS_step (fun K hK => ?_)
            simp only [lexOp, List.getElem?_toArray, List.getElem?_cons_succ, List.getElem?_cons_zero]
            rw [if_pos (by rfl)]
            go_step
            refine (HNE2.out false).mono ?_
            rintro e W3 ⟨rfl, h3, k3⟩
            have HL3 := Lib.hid (show LfI W3 g a n cap L (needE er false 8) gx x' from ⟨h3, (HL.out.i.below ((Below.refl _ _).drew)).keep k3 HL.out.ne, HL.out.ne, HL.out.z, HL.out.off⟩)
            have HK3 := Lib.hid ((HK.out.trans (KeepP.of ((Below.refl _ _).drew))).trans (k3.weak (fun k _ e => Or.inl e)))
            clear h3 k3
            go_simp
            first | refine ⟨HL3.out.i, hK _ _ ?_⟩ | skip
            clear hK K
            refine lexS_stir (EqWc W3) (fun y hy => by obtain rfl : y = W3 := hy; exact HL3.out.i) rfl ?_
            refine stir_nil (fun yy hy => ?_)
            obtain rfl : W3 = yy := Eq.symm hy
            go_wp2_with fail
            go_end0
            exact ⟨rfl, HL3.out, HK3.out⟩
          | cons d0 D0 =>
            obtain ⟨y74, hy74⟩ : ∃ y, y = decide (d0 :: D0 = [74]) := ⟨_, rfl⟩
            obtain ⟨y20, hy20⟩ : ∃ y, y = decide (xo = 20) := ⟨_, rfl⟩
            have e74 : (d0 :: D0 == [74]) = y74 := by rw [hy74, Bool.eq_iff_iff, beq_iff_eq, decide_eq_true_iff]
            have e20 : ((xo : Int) == 20) = y20 := by rw [hy20, Bool.eq_iff_iff, beq_iff_eq, decide_eq_true_iff]; omega
            have hCC : CC = (y74 == y20) := by rw [HCC.out, hy74, hy20]; rfl
            subst hCC
            clear hy74 hy20 HCC
            have hSw : BlkI gx x' W2.drew := HL.out.i
            refine wp_region_lexS (BlkI gx x') (.of [(0, true), (1, true), (2, true), (3, true), (4, true), (5, true), (6, true), (7, true), (8, true), (9, true), (10, true), (11, true), (12, true), (13, true), (14, true), (15, true), (16, true), (17, true), (18, true), (19, false)] (.stir [])) (by kernel_rfl) (by kernel_rfl) (fun c a d v w h => by cases d <;> exact h) ?_
            iterate 19
              refine lexS_step (fun K hK => ?_)
              simp only [lexOp, List.getElem?_toArray, List.getElem?_cons_succ, List.getElem?_cons_zero]
              rw [if_pos (by rfl)]
              apply Exists.intro
              refine ⟨fun w' hS' => ?_, hSw, ?_⟩
              · first | (go_simp <;> with_reducible rfl) | (go_simp; go_bits; with_reducible rfl)
              go_simp
              try go_bits
              refine hK _ _ ?_
              clear hK K
            refine lexS_step (fun K hK => ?_)
            simp only [lexOp, List.getElem?_toArray, List.getElem?_cons_succ, List.getElem?_cons_zero]
            rw [if_pos (by rfl)]
            go_step
            refine (HNE2.out (y74 == y20)).mono ?_
            rintro e W3 ⟨rfl, h3, k3⟩
            have HL3 := Lib.hid (show LfI W3 g a n cap L (needE er (y74 == y20) 8) gx x' from ⟨h3, (HL.out.i.below ((Below.refl _ _).drew)).keep k3 HL.out.ne, HL.out.ne, HL.out.z, HL.out.off⟩)
            have HK3 := Lib.hid ((HK.out.trans (KeepP.of ((Below.refl _ _).drew))).trans (k3.weak (fun k _ e => Or.inl e)))
            clear h3 k3
            go_simp
            first | refine ⟨HL3.out.i, hK _ _ ?_⟩ | skip
            clear hK K
            refine lexS_stir (EqWc W3) (fun y hy => by obtain rfl : y = W3 := hy; exact HL3.out.i) rfl ?_
            refine stir_nil (fun yy hy => ?_)
            obtain rfl : W3 = yy := Eq.symm hy
            go_wp2_with fail
            go_end0
            exact ⟨rfl, HL3.out, HK3.out⟩
        · have e8 : (c.tag == 8) = false := by simpa using h8
          have HXE := Lib.hid (show x' = x by rw [HX.out, if_neg h3, if_neg h5, if_neg h8])
          clear HX h3 h5 h8
          go_upto_region 10 with fail
          have HL := Lib.hid (show LfI W g a n cap L er gx x' by rw [HXE.out]; exact HCA.out.1)
          have HK := Lib.hid (show KeepP (fun k => k = g ∨ k = gx) w W from KeepP.of HCA.out.2.2.1)
          obtain ⟨W2, hW2⟩ : ∃ W2, W2 = W := ⟨_, rfl⟩
          subst hW2
          obtain ⟨i0, i1, i2, i3, i4, i5, i6, f1, f2, f3, f4, f5, f6⟩ := HL.out.i.box
          obtain ⟨D, hD⟩ : ∃ D, D = x'.ds := ⟨_, rfl⟩
          have li0 : ∀ w', BlkI gx x' w' → w'.cell? ⟨gx, 0, none⟩ = some (.int .u8 (x'.op : Nat)) := fun w' h => h.box.c0
          have li5 : ∀ w', BlkI gx x' w' → w'.cell? ⟨gx, 5, none⟩ = some (.string ⟨D.toArray⟩) := fun w' h => by rw [hD]; exact h.box.c5
          have HCC := Lib.hid (show conC x' = (!D.isEmpty && (decide (D = [74]) == decide (x'.op = 20))) by rw [hD]; rfl)
          have HNE2 := Lib.hid (fun ok => aneed_any W2.drew g a n cap L er ok 8 (HL.out.k.below ((Below.refl _ _).drew)))
          generalize conC x' = CC at *
          generalize x'.op = xo at *
          clear hD i0 i1 i2 i3 i4 i5 i6 f1 f2 f3 f4 f5 f6
          go_upto_region 10 with fail
          cases D with
          | nil =>
            have hCC : CC = false := HCC.out
            subst hCC
            have hSw : BlkI gx x' W2.drew := HL.out.i
            refine wp_region_lexS (BlkI gx x') (.of [(0, true), (1, true), (2, true), (3, true), (4, true), (5, true), (6, true), (7, true), (8, true), (9, true), (10, true), (11, true), (12, true), (13, true), (14, true), (15, true), (16, true), (17, true), (18, true), (19, false)] (.stir [])) (by kernel_rfl) (by kernel_rfl) (fun c a d v w h => by cases d <;> exact h) ?_
            iterate 7
              refine lexS_step (fun K hK => ?_)
              simp only [lexOp, List.getElem?_toArray, List.getElem?_cons_succ, List.getElem?_cons_zero]
              rw [if_pos (by rfl)]
              apply Exists.intro
              refine ⟨fun w' hS' => ?_, hSw, ?_⟩
              · first | (go_simp <;> with_reducible rfl) | (go_simp; go_bits; with_reducible rfl)
              go_simp
              try go_bits
              refine hK _ _ ?_
              clear hK K
            iterate 11
              refine lexS_step (fun K hK => ?_)
              simp only [lexOp, List.getElem?_toArray, List.getElem?_cons_succ, List.getElem?_cons_zero]
              rw [if_neg (Bool.eq_false_iff.1 (by rfl))]
              refine ⟨hSw, ?_⟩
              go_simp
              refine hK _ _ ?_
              clear hK K
            iterate 1
              refine lexS_step (fun K hK => ?_)
              simp only [lexOp, List.getElem?_toArray, List.getElem?_cons_succ, List.getElem?_cons_zero]
              rw [if_pos (by rfl)]
              apply Exists.intro
              refine ⟨fun w' hS' => ?_, hSw, ?_⟩
              · first | (go_simp <;> with_reducible rfl) | (go_simp; go_bits; with_reducible rfl)
              go_simp
              try go_bits
              refine hK _ _ ?_
              clear hK K
            refine lexS_step (fun K hK => ?_)
            simp only [lexOp, List.getElem?_toArray, List.getElem?_cons_succ, List.getElem?_cons_zero]
            rw [if_pos (by rfl)]
            go_step
            refine (HNE2.out false).mono ?_
            rintro e W3 ⟨rfl, h3, k3⟩
            have HL3 := Lib.hid (show LfI W3 g a n cap L (needE er false 8) gx x' from ⟨h3, (HL.out.i.below ((Below.refl _ _).drew)).keep k3 HL.out.ne, HL.out.ne, HL.out.z, HL.out.off⟩)
            have HK3 := Lib.hid ((HK.out.trans (KeepP.of ((Below.refl _ _).drew))).trans (k3.weak (fun k _ e => Or.inl e)))
            clear h3 k3
            go_simp
            first | refine ⟨HL3.out.i, hK _ _ ?_⟩ | skip
            clear hK K
            refine lexS_stir (EqWc W3) (fun y hy => by obtain rfl : y = W3 := hy; exact HL3.out.i) rfl ?_
            refine stir_nil (fun yy hy => ?_)
            obtain rfl : W3 = yy := Eq.symm hy
            go_wp2_with fail
            go_end0
            exact ⟨rfl, HL3.out, HK3.out⟩
          | cons d0 D0 =>
            obtain ⟨y74, hy74⟩ : ∃ y, y = decide (d0 :: D0 = [74]) := ⟨_, rfl⟩
            obtain ⟨y20, hy20⟩ : ∃ y, y = decide (xo = 20) := ⟨_, rfl⟩
            have e74 : (d0 :: D0 == [74]) = y74 := by rw [hy74, Bool.eq_iff_iff, beq_iff_eq, decide_eq_true_iff]
            have e20 : ((xo : Int) == 20) = y20 := by rw [hy20, Bool.eq_iff_iff, beq_iff_eq, decide_eq_true_iff]; omega
            have hCC : CC = (y74 == y20) := by rw [HCC.out, hy74, hy20]; rfl
            subst hCC
            clear hy74 hy20 HCC
            have hSw : BlkI gx x' W2.drew := HL.out.i
            refine wp_region_lexS (BlkI gx x') (.of [(0, true), (1, true), (2, true), (3, true), (4, true), (5, true), (6, true), (7, true), (8, true), (9, true), (10, true), (11, true), (12, true), (13, true), (14, true), (15, true), (16, true), (17, true), (18, true), (19, false)] (.stir [])) (by kernel_rfl) (by kernel_rfl) (fun c a d v w h => by cases d <;> exact h) ?_
            iterate 19
              refine lexS_step (fun K hK => ?_)
              simp only [lexOp, List.getElem?_toArray, List.getElem?_cons_succ, List.getElem?_cons_zero]
              rw [if_pos (by rfl)]
              apply Exists.intro
              refine ⟨fun w' hS' => ?_, hSw, ?_⟩
              · first | (go_simp <;> with_reducible rfl) | (go_simp; go_bits; with_reducible rfl)
              go_simp
              try go_bits
              refine hK _ _ ?_
              clear hK K
            refine lexS_step (fun K hK => ?_)
            simp only [lexOp, List.getElem?_toArray, List.getElem?_cons_succ, List.getElem?_cons_zero]
            rw [if_pos (by rfl)]
            go_step
            refine (HNE2.out (y74 == y20)).mono ?_
            rintro e W3 ⟨rfl, h3, k3⟩
            have HL3 := Lib.hid (show LfI W3 g a n cap L (needE er (y74 == y20) 8) gx x' from ⟨h3, (HL.out.i.below ((Below.refl _ _).drew)).keep k3 HL.out.ne, HL.out.ne, HL.out.z, HL.out.off⟩)
            have HK3 := Lib.hid ((HK.out.trans (KeepP.of ((Below.refl _ _).drew))).trans (k3.weak (fun k _ e => Or.inl e)))
            clear h3 k3
            go_simp
            first | refine ⟨HL3.out.i, hK _ _ ?_⟩ | skip
            clear hK K
            refine lexS_stir (EqWc W3) (fun y hy => by obtain rfl : y = W3 := hy; exact HL3.out.i) rfl ?_
            refine stir_nil (fun yy hy => ?_)
            obtain rfl : W3 = yy := Eq.symm hy
            go_wp2_with fail
            go_end0
            exact ⟨rfl, HL3.out, HK3.out⟩
  · have hl1 : ¬ (at_ : Int) < n := by omega
    have hcz : c = kz := by
      rw [HC.out]; unfold kAt; rw [Int.toNat_natCast, List.getD_eq_getElem?_getD, List.getElem?_eq_none (by have := HN.out; omega)]; rfl
    have HX0 := Lib.hid (show x' = x by rw [HX.out, hcz]; rfl)
    subst hcz
    clear HX HC hlt
    go_enter Tryz.func103, Tryz.ntmps103
    go_upto_region 10 with fail
    have hbA : Below w.heap.size w (w.alloc (.cells #[.int .i64 0, .int .i64 0, .int .i64 0, .int .i64 0, .string ⟨#[]⟩] 61)) := (Below.refl _ _).alloc (Nat.le_refl _) _
    have HL := Lib.hid (show LfI (w.alloc (.cells #[.int .i64 0, .int .i64 0, .int .i64 0, .int .i64 0, .string ⟨#[]⟩] 61)) g a n cap L er gx x' by rw [HX0.out]; exact H.out.below hbA)
    have HK := Lib.hid (show KeepP (fun k => k = g ∨ k = gx) w (w.alloc (.cells #[.int .i64 0, .int .i64 0, .int .i64 0, .int .i64 0, .string ⟨#[]⟩] 61)) from KeepP.of hbA)
    generalize w.alloc (.cells #[.int .i64 0, .int .i64 0, .int .i64 0, .int .i64 0, .string ⟨#[]⟩] 61) = W2 at *
    clear hbA k0 k1 q0 q1 klt hb0 hb2 hl1
    obtain ⟨i0, i1, i2, i3, i4, i5, i6, f1, f2, f3, f4, f5, f6⟩ := HL.out.i.box
    obtain ⟨D, hD⟩ : ∃ D, D = x'.ds := ⟨_, rfl⟩
    have li0 : ∀ w', BlkI gx x' w' → w'.cell? ⟨gx, 0, none⟩ = some (.int .u8 (x'.op : Nat)) := fun w' h => h.box.c0
    have li5 : ∀ w', BlkI gx x' w' → w'.cell? ⟨gx, 5, none⟩ = some (.string ⟨D.toArray⟩) := fun w' h => by rw [hD]; exact h.box.c5
    have HCC := Lib.hid (show conC x' = (!D.isEmpty && (decide (D = [74]) == decide (x'.op = 20))) by rw [hD]; rfl)
    have HNE2 := Lib.hid (fun ok => aneed_any W2.drew g a n cap L er ok 8 (HL.out.k.below ((Below.refl _ _).drew)))
    generalize conC x' = CC at *
    generalize x'.op = xo at *
    clear hD i0 i1 i2 i3 i4 i5 i6 f1 f2 f3 f4 f5 f6
    go_upto_region 10 with fail
    cases D with
    | nil =>
      have hCC : CC = false := HCC.out
      subst hCC
      have hSw : BlkI gx x' W2.drew := HL.out.i
      refine wp_region_lexS (BlkI gx x') (.of [(0, true), (1, true), (2, true), (3, true), (4, true), (5, true), (6, true), (7, true), (8, true), (9, true), (10, true), (11, true), (12, true), (13, true), (14, true), (15, true), (16, true), (17, true), (18, true), (19, false)] (.stir [])) (by kernel_rfl) (by kernel_rfl) (fun c a d v w h => by cases d <;> exact h) ?_
      iterate 7
        refine lexS_step (fun K hK => ?_)
        simp only [lexOp, List.getElem?_toArray, List.getElem?_cons_succ, List.getElem?_cons_zero]
        rw [if_pos (by rfl)]
        apply Exists.intro
        refine ⟨fun w' hS' => ?_, hSw, ?_⟩
        · first | (go_simp <;> with_reducible rfl) | (go_simp; go_bits; with_reducible rfl)
        go_simp
        try go_bits
        refine hK _ _ ?_
        clear hK K
      iterate 11
        refine lexS_step (fun K hK => ?_)
        simp only [lexOp, List.getElem?_toArray, List.getElem?_cons_succ, List.getElem?_cons_zero]
        rw [if_neg (Bool.eq_false_iff.1 (by rfl))]
        refine ⟨hSw, ?_⟩
        go_simp
        refine hK _ _ ?_
        clear hK K
      iterate 1
        refine lexS_step (fun K hK => ?_)
        simp only [lexOp, List.getElem?_toArray, List.getElem?_cons_succ, List.getElem?_cons_zero]
        rw [if_pos (by rfl)]
        apply Exists.intro
        refine ⟨fun w' hS' => ?_, hSw, ?_⟩
        · first | (go_simp <;> with_reducible rfl) | (go_simp; go_bits; with_reducible rfl)
        go_simp
        try go_bits
        refine hK _ _ ?_
        clear hK K
      refine lexS_step (fun K hK => ?_)
      simp only [lexOp, List.getElem?_toArray, List.getElem?_cons_succ, List.getElem?_cons_zero]
      rw [if_pos (by rfl)]
      go_step
      refine (HNE2.out false).mono ?_
      rintro e W3 ⟨rfl, h3, k3⟩
      have HL3 := Lib.hid (show LfI W3 g a n cap L (needE er false 8) gx x' from ⟨h3, (HL.out.i.below ((Below.refl _ _).drew)).keep k3 HL.out.ne, HL.out.ne, HL.out.z, HL.out.off⟩)
      have HK3 := Lib.hid ((HK.out.trans (KeepP.of ((Below.refl _ _).drew))).trans (k3.weak (fun k _ e => Or.inl e)))
      clear h3 k3
      go_simp
      first | refine ⟨HL3.out.i, hK _ _ ?_⟩ | skip
      clear hK K
      refine lexS_stir (EqWc W3) (fun y hy => by obtain rfl : y = W3 := hy; exact HL3.out.i) rfl ?_
      refine stir_nil (fun yy hy => ?_)
      obtain rfl : W3 = yy := Eq.symm hy
      go_wp2_with fail
      go_end0
      exact ⟨rfl, HL3.out, HK3.out⟩
    | cons d0 D0 =>
      obtain ⟨y74, hy74⟩ : ∃ y, y = decide (d0 :: D0 = [74]) := ⟨_, rfl⟩
      obtain ⟨y20, hy20⟩ : ∃ y, y = decide (xo = 20) := ⟨_, rfl⟩
      have e74 : (d0 :: D0 == [74]) = y74 := by rw [hy74, Bool.eq_iff_iff, beq_iff_eq, decide_eq_true_iff]
      have e20 : ((xo : Int) == 20) = y20 := by rw [hy20, Bool.eq_iff_iff, beq_iff_eq, decide_eq_true_iff]; omega
      have hCC : CC = (y74 == y20) := by rw [HCC.out, hy74, hy20]; rfl
      subst hCC
      clear hy74 hy20 HCC
      have hSw : BlkI gx x' W2.drew := HL.out.i
      refine wp_region_lexS (BlkI gx x') (.of [(0, true), (1, true), (2, true), (3, true), (4, true), (5, true), (6, true), (7, true), (8, true), (9, true), (10, true), (11, true), (12, true), (13, true), (14, true), (15, true), (16, true), (17, true), (18, true), (19, false)] (.stir [])) (by kernel_rfl) (by kernel_rfl) (fun c a d v w h => by cases d <;> exact h) ?_
      iterate 19
        refine lexS_step (fun K hK => ?_)
        simp only [lexOp, List.getElem?_toArray, List.getElem?_cons_succ, List.getElem?_cons_zero]
        rw [if_pos (by rfl)]
        apply Exists.intro
        refine ⟨fun w' hS' => ?_, hSw, ?_⟩
        · first | (go_simp <;> with_reducible rfl) | (go_simp; go_bits; with_reducible rfl)
        go_simp
        try go_bits
        refine hK _ _ ?_
        clear hK K
      refine lexS_step (fun K hK => ?_)
      simp only [lexOp, List.getElem?_toArray, List.getElem?_cons_succ, List.getElem?_cons_zero]
      rw [if_pos (by rfl)]
      go_step
      refine (HNE2.out (y74 == y20)).mono ?_
      rintro e W3 ⟨rfl, h3, k3⟩
      have HL3 := Lib.hid (show LfI W3 g a n cap L (needE er (y74 == y20) 8) gx x' from ⟨h3, (HL.out.i.below ((Below.refl _ _).drew)).keep k3 HL.out.ne, HL.out.ne, HL.out.z, HL.out.off⟩)
      have HK3 := Lib.hid ((HK.out.trans (KeepP.of ((Below.refl _ _).drew))).trans (k3.weak (fun k _ e => Or.inl e)))
      clear h3 k3
      go_simp
      first | refine ⟨HL3.out.i, hK _ _ ?_⟩ | skip
      clear hK K
      refine lexS_stir (EqWc W3) (fun y hy => by obtain rfl : y = W3 := hy; exact HL3.out.i) rfl ?_
      refine stir_nil (fun yy hy => ?_)
      obtain rfl : W3 = yy := Eq.symm hy
      go_wp2_with fail
      go_end0
      exact ⟨rfl, HL3.out, HK3.out⟩
end Go.Proofs.YtclpkipaehpkdaaGreatDoor

