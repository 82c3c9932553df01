/- klass: a field is read (printed by gen/klrd10.py). No condition. -/
import Derived.Test.YtnfhiakdbakpgaaQ16KlassCuts
namespace Go.Proofs.Ytnfhiakdbakpgaa
open Go.ChangeShapes Go.WideShapes Go.ChangeAt Go.RowKit
/-- The cells that the callback reads: the reader's box and the class's fields. -/
def FdS (g gr gf : Nat) (v : Value) (w : World) : Prop := w.cell? ⟨gr, 0, none⟩ = some (.pointer (some ⟨g, 0, none⟩)) ∧ w.cell? ⟨gf, 3, none⟩ = some v
theorem FdS.keep1 {g gr gf : Nat} {v : Value} {w w' : World} (h : FdS g gr gf v w) (a : Keep1 g w w') (h1 : gr ≠ g) (h2 : gf ≠ g) : FdS g gr gf v w' := ⟨cell_keep1 a h1 h.1, cell_keep1 a h2 h.2⟩
theorem FdS.below {g gr gf : Nat} {v : Value} {w w' : World} (h : FdS g gr gf v w) (a : Below w.heap.size w w') : FdS g gr gf v w' := ⟨cellS_below a h.1, cellS_below a h.2⟩
theorem stFieldK : StE 23 59 (.agg #[.int .i64 0, .int .i64 0, .int .i64 0]) 3 24 := ⟨by kernel_rfl, by kernel_rfl, rfl⟩
/-- What the fields' callback has gathered. -/
def FdJ (g gr gf : Nat) (c0 c1 c2 : Value) (w0 : World) (l : List KD) (W : World) : Prop :=
  W.heap[gr]? = some (.cells #[.pointer (some ⟨g, 0, none⟩)] 75) ∧
  (∃ (v : Value) (m : Nat), W.heap[gf]? = some (.cells #[c0, c1, c2, v, .slice none 0 0] 26) ∧ W.ownsRow w0.heap.size 59 3 v m (l.flatMap KD.cells) ∧ m = l.length) ∧ Keep2 g gf w0 W
set_option maxRecDepth 100000 in
set_option maxHeartbeats 8000000 in
theorem field1_any (w0 W : World) (g gr gf : Nat) (z0 z1 z2 : Value) (a : Option Addr) (n cap : Nat) (bs : List UInt8) (t : St) (l : List KD) (hs0 : Sl encB w0 a n bs) (hom : Off1 a n gf) (hg0 : g < w0.heap.size) (hf0 : gf < w0.heap.size) (hfg : gf ≠ g) (hrg : gr ≠ g) (hrf : gr ≠ gf)
    (h : RdS W g a n cap bs t) (hJ : FdJ g gr gf z0 z1 z2 w0 l W) (hl : l.length ≤ 65535) :
    Calls Try.prog 36 #[.pointer (some ⟨gf, 0, none⟩), .pointer (some ⟨gr, 0, none⟩)] W fun e W' => e = .returned (.tuple #[]) ∧ RdS W' g a n cap bs (fieldS bs t).2 ∧ FdJ g gr gf z0 z1 z2 w0 (l ++ [(fieldS bs t).1]) W' := by
  obtain ⟨hj1, ⟨v0, m0, hj3, hj4, hmm⟩, hk0⟩ := hJ
  have HS0 := Lib.hid hs0
  have HOM := Lib.hid hom
  have hml : m0 ≤ 65535 := by omega
  have HMM := Lib.hid hmm
  obtain ⟨a0, c0, rfl, -, -⟩ := Ss.ofOwn KD.cells_length (by decide) hj4
  have HG := Lib.hid hj1
  have HM := Lib.hid hj3
  have HO := Lib.hid hj4
  have HKW := Lib.hid hk0
  have hR0 : RdS W.drew g a n cap bs t := h.below (Below.refl W.heap.size W).drew
  obtain ⟨x0, s1, hx0⟩ : ∃ x s, getS bs 2 t = (x, s) := ⟨_, _, rfl⟩
  obtain ⟨x1, s2, hx1⟩ : ∃ x s, getS bs 2 s1 = (x, s) := ⟨_, _, rfl⟩
  obtain ⟨x2, s3, hx2⟩ : ∃ x s, getS bs 2 s2 = (x, s) := ⟨_, _, rfl⟩
  have HSL := Lib.hid (show fieldS bs t = (⟨x0, x1, x2⟩, (mustS bs 2 [0] s3).2) by simp only [fieldS, bindR, pureR, hx0, hx1, hx2])
  have HX1 := Lib.hid hx0
  have HX2 := Lib.hid hx1
  have HX3 := Lib.hid hx2
  have hSw : FdS g gr gf (.slice a0 m0 c0) W.drew := FdS.below ⟨row_cell HG.out 0 rfl, row_cell HM.out 3 rfl⟩ (Below.refl _ _).drew
  have l0 := fun z (h : FdS g gr gf (.slice a0 m0 c0) z) => h.1
  have l1 := fun z (h : FdS g gr gf (.slice a0 m0 c0) z) => h.2
  clear hs0 hom h hl hj1 hj3 hj4 hmm hk0 hx0 hx1 hx2
  go_enter Try.func36, Try.ntmps36
  go_upto_region 0 with fail
  refine wp_region_lexE (FdS g gr gf (.slice a0 m0 c0)) 12 [(0, true), (1, true), (2, true), (4, true), (6, true), (3, false), (5, false), (7, false), (8, true), (9, false), (10, false), (11, true)] (by kernel_rfl) (by kernel_rfl) (fun c a d v w h => by cases d <;> exact h) ?_
  have HKA := Lib.hid ((Keep1.refl g W).drew)
  generalize W.drew = W0 at *
  iterate 5
    refine lexE_step (fun K hK => ?_)
    simp only [lexOp, List.getElem?_toArray, List.getElem?_cons_succ, List.getElem?_cons_zero]
    rw [if_pos (by rfl)]
    apply Exists.intro
    refine ⟨fun w' hS' => ?_, hSw, ?_⟩
    · first | (go_simp <;> with_reducible rfl) | (go_simp; go_bits; with_reducible rfl)
    go_simp
    try go_bits
    refine hK _ _ ?_
    clear hK K
  have HR0 := Lib.hid hR0
  have HK0 := HKA
  obtain ⟨s0, hs0⟩ : ∃ s0, s0 = t := ⟨_, rfl⟩
  rw [← hs0] at HR0 HX1
  clear hR0 hs0
  refine lexE_step (fun K hK => ?_)
  simp only [lexOp, List.getElem?_toArray, List.getElem?_cons_succ, List.getElem?_cons_zero]
  rw [if_pos (by rfl)]
  go_step
  have HU := ku2_any W0 g a n cap bs s0 HR0.out
  rw [HX1.out] at HU
  dsimp only at HU
  refine HU.mono ?_
  rintro e' W1 ⟨rfl, hr, hk⟩
  clear HU
  have HR1 := Lib.hid hr
  have HK1 := Lib.hid (HK0.out.trans hk)
  replace hSw : FdS g gr gf (.slice a0 m0 c0) W1 := hSw.keep1 hk hrg hfg
  clear hr hk HR0 HK0
  go_simp
  first | refine hK _ _ ?_ | refine ⟨hSw, hK _ _ ?_⟩
  clear hK K
  refine lexE_step (fun K hK => ?_)
  simp only [lexOp, List.getElem?_toArray, List.getElem?_cons_succ, List.getElem?_cons_zero]
  rw [if_pos (by rfl)]
  go_step
  have HU := ku2_any W1 g a n cap bs s1 HR1.out
  rw [HX2.out] at HU
  dsimp only at HU
  refine HU.mono ?_
  rintro e' W2 ⟨rfl, hr, hk⟩
  clear HU
  have HR2 := Lib.hid hr
  have HK2 := Lib.hid (HK1.out.trans hk)
  replace hSw : FdS g gr gf (.slice a0 m0 c0) W2 := hSw.keep1 hk hrg hfg
  clear hr hk HR1 HK1
  go_simp
  first | refine hK _ _ ?_ | refine ⟨hSw, hK _ _ ?_⟩
  clear hK K
  refine lexE_step (fun K hK => ?_)
  simp only [lexOp, List.getElem?_toArray, List.getElem?_cons_succ, List.getElem?_cons_zero]
  rw [if_pos (by rfl)]
  go_step
  have HU := ku2_any W2 g a n cap bs s2 HR2.out
  rw [HX3.out] at HU
  dsimp only at HU
  refine HU.mono ?_
  rintro e' W3 ⟨rfl, hr, hk⟩
  clear HU
  have HR3 := Lib.hid hr
  have HK3 := Lib.hid (HK2.out.trans hk)
  replace hSw : FdS g gr gf (.slice a0 m0 c0) W3 := hSw.keep1 hk hrg hfg
  clear hr hk HR2 HK2
  go_simp
  first | refine hK _ _ ?_ | refine ⟨hSw, hK _ _ ?_⟩
  clear hK K
  iterate 1
    refine lexE_step (fun K hK => ?_)
    simp only [lexOp, List.getElem?_toArray, List.getElem?_cons_succ, List.getElem?_cons_zero]
    rw [if_pos (by rfl)]
    apply Exists.intro
    refine ⟨fun w' hS' => ?_, hSw, ?_⟩
    · first | (go_simp <;> with_reducible rfl) | (go_simp; go_bits; with_reducible rfl)
    go_simp
    try go_bits
    refine hK _ _ ?_
    clear hK K
  refine lexE_step (fun K hK => ?_)
  simp only [lexOp, List.getElem?_toArray, List.getElem?_cons_succ, List.getElem?_cons_zero]
  rw [if_pos (by rfl)]
  go_step
  have hal : Below W3.heap.size W3 (W3.alloc (.cells #[.int .i64 x0, .int .i64 x1, .int .i64 x2] 59)) := below_1 _ _
  refine ⟨hSw.below hal, hK _ _ ?_⟩
  clear hK K hal
  have HO4 := Lib.hid (own_keep1 HO.out HK3.out hg0)
  have HKW4 := Lib.hid (HKW.out.trans (HK3.out.two gf))
  have HG5 := Lib.hid (HK3.out.blk HG.out hrg)
  have HM5 := Lib.hid (HK3.out.blk HM.out hfg)
  refine lexE_step (fun K hK => ?_)
  simp only [lexOp, List.getElem?_toArray, List.getElem?_cons_succ, List.getElem?_cons_zero]
  rw [if_pos (by rfl)]
  change Oper.wp _ _ _ _ _ _
  refine wp_appSK stFieldK (ops := #[]) rfl _ _ _ rfl w0.heap.size _ m0 _ rfl (HO4.out.alloc _) _ 1 _ rfl (Src.litS (m := 1) rfl rfl stFieldK.1) (by omega) (by unfold maxLen; omega) (Nat.le_trans HKW4.out.size (by simp)) ?_
  intro v3 W6 hown3 hg3 hb3
  have hk3 := KeptT.app HO4.out hg3
  have HK6 := Lib.hid (keep2_appA HKW4.out HO4.out hg3)
  have HR6 := Lib.hid (HR3.out.keptT2 hk3 (by decide) HS0.out HK6.out HOM.out)
  have HG6 := Lib.hid (hk3.2 _ _ _ _ HG5.out (by decide))
  have HM6 := Lib.hid (hk3.2 _ _ _ _ HM5.out (by decide))
  have hown4 : W6.ownsRow w0.heap.size 59 3 v3 (m0 + 1) ((l ++ [(⟨x0, x1, x2⟩ : KD)]).flatMap KD.cells) := by rw [List.flatMap_append]; exact hown3
  obtain ⟨a3, c3, rfl, -, -⟩ := Ss.ofOwn KD.cells_length (by decide) hown4
  have HO6 := Lib.hid hown4
  replace hSw : FdS g gr gf (.slice a0 m0 c0) W6 := ⟨row_cell HG6.out 0 rfl, row_cell HM6.out 3 rfl⟩
  clear hown3 hown4 hg3 hb3 hk3 HG HM HO HKW HR3 HK3 HKA HO4 HKW4 HG5 HM5
  refine ⟨hSw, hK _ _ ?_⟩
  clear hK K
  iterate 1
    refine lexE_step (fun K hK => ?_)
    simp only [lexOp, List.getElem?_toArray, List.getElem?_cons_succ, List.getElem?_cons_zero]
    rw [if_pos (by rfl)]
    apply Exists.intro
    refine ⟨fun w' hS' => ?_, hSw, ?_⟩
    · first | (go_simp <;> with_reducible rfl) | (go_simp; go_bits; with_reducible rfl)
    go_simp
    try go_bits
    refine hK _ _ ?_
    clear hK K
  have fo := row_melt HM6.out 3
  have lto := row_lt HM6.out
  have co : W6.cell? ⟨gf, 3, none⟩ = some (.slice a0 m0 c0) := row_cell HM6.out 3 rfl
  refine lexE_last ?_
  simp only [lastOp, List.getElem?_toArray, List.getElem?_cons_succ, List.getElem?_cons_zero]
  rw [if_pos (by rfl)]
  go_step
  have HR7 := Lib.hid (RdS.set HR6.out ⟨Ne.symm hfg, HOM.out⟩ 3 (.slice a3 (m0 + 1) c3))
  have HG7 := Lib.hid (heap_other HG6.out hrf 3 (.slice a3 (m0 + 1) c3))
  have HM7 := Lib.hid (show (W6.setCell ⟨gf, 3, none⟩ (.slice a3 (m0 + 1) c3)).heap[gf]? = some (.cells #[z0, z1, z2, .slice a3 (m0 + 1) c3, .slice none 0 0] 26) by simpa using heap_set3 HM6.out 3 (.slice a3 (m0 + 1) c3))
  have HO7 := Lib.hid (own_keptT HO6.out (keptT_set HM6.out 3 (.slice a3 (m0 + 1) c3)) (by decide))
  have HK7 := Lib.hid (HK6.out.setC (.inr (.inr rfl)) 3 (.slice a3 (m0 + 1) c3))
  clear fo lto co hSw l0 l1 HR6 HG6 HM6 HO6 HK6
  generalize W6.setCell ⟨gf, 3, none⟩ (.slice a3 (m0 + 1) c3) = W7 at *
  have q0 : W7.cell? ⟨gr, 0, none⟩ = some (.pointer (some ⟨g, 0, none⟩)) := row_cell HG7.out 0 rfl
  have HU := Lib.hid (must_lit W7 g a n cap bs s3 HR7.out 2 (by decide) (by decide) 1 [0] rfl (by decide))
  go_wp2_with fail
  refine HU.out.mono ?_
  rintro e' W8 ⟨rfl, hr, hk⟩
  go_wp2_with fail
  go_end0
  rw [HSL.out]
  exact ⟨rfl, hr, hk.blk HG7.out hrg, ⟨.slice a3 (m0 + 1) c3, m0 + 1, hk.blk HM7.out hfg, own_keep1 HO7.out hk hg0, by rw [List.length_append, ← HMM.out]; rfl⟩, HK7.out.trans (hk.two gf)⟩
end Go.Proofs.Ytnfhiakdbakpgaa
