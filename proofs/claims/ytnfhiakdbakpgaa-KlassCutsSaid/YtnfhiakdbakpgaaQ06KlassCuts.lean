/- pool: the reader's next and text. No condition. -/
import Derived.Test.YtnfhiakdbakpgaaQ05KlassCuts
import Derived.Test.YtnfhiakdbakpgaaQ04KlassCuts
namespace Go.Proofs.Ytnfhiakdbakpgaa
open Go.ChangeShapes Go.WideShapes Go.ChangeAt Go.RowKit
/-- A reader. -/
def RdBlk (w : World) (g : Nat) (a : Option Addr) (n cap p : Nat) (e : Int) : Prop := w.heap[g]? = some (.cells #[.slice a n cap, .int .i64 (p : Nat), .int .i64 e] 109)
theorem RdBlk.below {w w' : World} {g : Nat} {a : Option Addr} {n cap p : Nat} {e : Int} (h : RdBlk w g a n cap p e) (hb : Below w.heap.size w w') : RdBlk w' g a n cap p e := by
  unfold RdBlk
  rw [hb.block g (Array.getElem?_eq_some_iff.1 h).1]
  exact h
theorem RdBlk.box {w : World} {g : Nat} {a : Option Addr} {n cap p : Nat} {e : Int} (h : RdBlk w g a n cap p e) : (w.cell? ⟨g, 0, none⟩ = some (.slice a n cap) ∧ w.cell? ⟨g, 1, none⟩ = some (.int .i64 (p : Nat)) ∧ w.cell? ⟨g, 2, none⟩ = some (.int .i64 e)) ∧
    (w.frozen? ⟨g, 1, none⟩ = false ∧ w.frozen? ⟨g, 2, none⟩ = false) ∧ g < w.heap.size := by
  refine ⟨⟨?_, ?_, ?_⟩, ⟨?_, ?_⟩, (Array.getElem?_eq_some_iff.1 h).1⟩
  · rw [cell_of_row w g 0 _ _ _ h]; rfl
  · rw [cell_of_row w g 1 _ _ _ h]; rfl
  · rw [cell_of_row w g 2 _ _ _ h]; rfl
  all_goals (unfold World.frozen?; rw [h]; rfl)
theorem heap_setK {w : World} {g : Nat} {cs : Array Value} {t : TypeId} {fr : Nat × Nat} (h : w.heap[g]? = some (.cells cs t fr)) (o : Nat) (v : Value) : (w.setCell ⟨g, o, none⟩ v).heap[g]? = some (.cells (cs.setIfInBounds o v) t fr) := by
  unfold World.setCell
  simp [Array.getElem?_modify, h]
theorem heap_setKX {w : World} {g h : Nat} (hne : h ≠ g) (o : Nat) (v : Value) : (w.setCell ⟨g, o, none⟩ v).heap[h]? = w.heap[h]? := by
  unfold World.setCell
  simp [Array.getElem?_modify, Ne.symm hne]
theorem size_setK {w : World} {g : Nat} (o : Nat) (v : Value) : (w.setCell ⟨g, o, none⟩ v).heap.size = w.heap.size := by
  unfold World.setCell
  simp
theorem RdBlk.set1 {w : World} {g : Nat} {a : Option Addr} {n cap p p' : Nat} {e : Int} (h : RdBlk w g a n cap p e) : RdBlk (w.setCell ⟨g, 1, none⟩ (.int .i64 (p' : Nat))) g a n cap p' e := heap_setK h 1 _
theorem RdBlk.set2 {w : World} {g : Nat} {a : Option Addr} {n cap p : Nat} {e e' : Int} (h : RdBlk w g a n cap p e) : RdBlk (w.setCell ⟨g, 2, none⟩ (.int .i64 e')) g a n cap p e' := heap_setK h 2 _
theorem grown_setK {w w' : World} {g o : Nat} {v : Value} (h : w.grownBy w' (some g)) : w.grownBy (w'.setCell ⟨g, o, none⟩ v) (some g) :=
  ⟨h.os, h.tape, h.output, by rw [size_setK]; exact h.size, fun k hk hne => by rw [heap_setKX (fun e => hne (by rw [e]))]; exact h.block k hk hne⟩
theorem grown_belowK {w w' : World} {row : Option Nat} (h : Below w.heap.size w w') : w.grownBy w' row := ⟨h.os, h.tape, h.output, h.size, fun k hk _ => h.block k hk⟩
/-- The next number. -/
def nextR (bs : List UInt8) (p : Nat) (e : Int) (m : Nat) : Int × Nat × Int := if e = 0 then ((getR bs p m).1, p + m, (getR bs p m).2) else (0, p, e)
def NextRet (bs : List UInt8) (g : Nat) (a : Option Addr) (n cap p : Nat) (e : Int) (m : Nat) (w : World) (en : Ending) (w' : World) : Prop :=
  en = .returned (.int .u64 (nextR bs p e m).1) ∧ RdBlk w' g a n cap (nextR bs p e m).2.1 (nextR bs p e m).2.2 ∧ w.grownBy w' (some g)
set_option maxRecDepth 100000 in
set_option maxHeartbeats 4000000 in
theorem next_any (w : World) (a : Option Addr) (n cap : Nat) (bs : List UInt8) (g p : Nat) (e : Int) (m : Nat) (hs : Sl encB w a n bs) (hn : n ≤ 1048576) (hcap : n ≤ cap) (hp : p ≤ 1048600) (hm : m ≤ 8) (hb : RdBlk w g a n cap p e) :
    Calls Try.prog 66 #[.pointer (some ⟨g, 0, none⟩), .int .i64 (m : Nat)] w (NextRet bs g a n cap p e m w) := by
  have HS := Lib.hid hs
  have HBK := Lib.hid hb
  obtain ⟨⟨c0, c1, c2⟩, ⟨f1, f2⟩, hgl⟩ := hb.box
  clear hs hb
  by_cases he : e = 0
  · subst he
    have HC := Lib.hid (fun w' (h : Below w.heap.size w w') => Get_any w' a n cap bs (p : Int) (m : Int) (HS.out.below h) hn hcap (by unfold IntR; omega) (by unfold IntR; omega))
    have HNR : Hid (nextR bs p 0 m = ((getR bs p m).1, p + m, (getR bs p m).2)) := Lib.hid rfl
    unfold NextRet
    rw [HNR.out]
    clear HNR
    generalize (getR bs (p : Int) (m : Int)).1 = v at *
    generalize (getR bs (p : Int) (m : Int)).2 = e2 at *
    go_enter Try.func66, Try.ntmps66
    go_wp2_with fail
    have d0 := fun w' (h : Below w.heap.size w w') => cellS_below h c0
    have d1 := fun w' (h : Below w.heap.size w w') => cellS_below h c1
    clear c0 c1 c2 f1 f2
    refine wp_region_lexS (Below w.heap.size w) (.stir [(0, true), (1, true), (2, true), (3, true), (4, true), (5, true), (6, true), (7, true), (8, true), (9, false), (10, true), (11, true), (12, true), (13, true), (14, true)]) (by kernel_rfl) (by kernel_rfl) (fun c a d v w h => by cases d <;> exact h) ?_
    refine lexS_stir (Below w.heap.size w) (fun _ h => h) (Below.refl _ _).drew ?_
    iterate 9
      refine stir_step (fun K hK => ?_)
      simp only [stirOp, List.getElem?_toArray, List.getElem?_cons_succ, List.getElem?_cons_zero]
      rw [if_pos (by rfl)]
      apply Exists.intro
      refine ⟨fun w' hS' => ?_, ?_⟩
      · first | (go_simp <;> with_reducible rfl) | (go_simp; go_bits; with_reducible rfl)
      go_simp
      try go_bits
      refine hK _ ?_
      clear hK K
    refine stir_step (fun K hK => ?_)
    simp only [stirOp, List.getElem?_toArray, List.getElem?_cons_succ, List.getElem?_cons_zero]
    rw [if_pos (by rfl)]
    apply Exists.intro
    refine ⟨fun w' hS' => ?_, ?_⟩
    · go_simp
      exact Stirs.call (Calls.mono ((HC.out w' hS')) fun e w'' h => ⟨h.1, (fun hb'' => hb'' ▸ hS') h.2⟩)
    go_simp
    refine hK _ ?_
    clear hK K
    iterate 5
      refine stir_step (fun K hK => ?_)
      simp only [stirOp, List.getElem?_toArray, List.getElem?_cons_succ, List.getElem?_cons_zero]
      rw [if_pos (by rfl)]
      apply Exists.intro
      refine ⟨fun w' hS' => ?_, ?_⟩
      · first | (go_simp <;> with_reducible rfl) | (go_simp; go_bits; with_reducible rfl)
      go_simp
      try go_bits
      refine hK _ ?_
      clear hK K
    refine stir_nil (fun y1 hy => ?_)
    have HY1 := Lib.hid hy
    have HB1 := Lib.hid (HBK.out.below hy)
    clear d0 d1 hy HC
    obtain ⟨⟨c0, c1, c2⟩, ⟨f1, f2⟩, hg1⟩ := HB1.out.box
    go_wp2_with fail
    go_ret
    exact ⟨rfl, HB1.out.set1.set2, grown_setK (grown_setK (grown_belowK HY1.out))⟩
  · have HNR : Hid (nextR bs p e m = (0, p, e)) := Lib.hid (by unfold nextR; rw [if_neg he])
    have ee : (e != 0) = true := by simp [he]
    unfold NextRet
    rw [HNR.out]
    clear he HNR
    go_enter Try.func66, Try.ntmps66
    go_wp2_with fail
    go_ret
    exact ⟨rfl, HBK.out, grown_belowK (Below.refl _ _)⟩
theorem Sl.grownK {α : Type} {enc : α → Value} {w w' : World} {a : Option Addr} {n g : Nat} {xs : List α} (h : Sl enc w a n xs) (hg : w.grownBy w' (some g)) (hne : ∀ b off, a = some ⟨b, off, none⟩ → b ≠ g) : Sl enc w' a n xs := by
  refine ⟨h.1, fun hn => ?_⟩
  obtain ⟨b, off, ha, hlt, hc⟩ := h.2 hn
  refine ⟨b, off, ha, Nat.lt_of_lt_of_le hlt hg.size, fun i hi => ?_⟩
  rw [World.cell?_of_block (hg.block b hlt (fun e => hne b off ha (by cases e; rfl)))]
  exact hc i hi
/-- The next text. -/
def textR (bs : List UInt8) (p : Nat) (e : Int) (m : Nat) : List UInt8 × Nat × Int :=
  if e ≠ 0 then ([], p, e) else if (bs.length : Int) - p < m then ([], p, 6) else ((bs.drop p).take m, p + m, 0)
def TextRd (bs : List UInt8) (g : Nat) (a : Option Addr) (n cap p : Nat) (e : Int) (m : Nat) (w : World) (en : Ending) (w' : World) : Prop :=
  en = .returned (.string ⟨(textR bs p e m).1.toArray⟩) ∧ RdBlk w' g a n cap (textR bs p e m).2.1 (textR bs p e m).2.2 ∧ w.grownBy w' (some g)
set_option maxRecDepth 100000 in
set_option maxHeartbeats 4000000 in
theorem text_any (w : World) (a : Option Addr) (n cap : Nat) (bs : List UInt8) (g p : Nat) (e : Int) (m : Nat) (hs : Sl encB w a n bs) (hn : n ≤ 1048576) (hcap : n ≤ cap) (hp : p ≤ 1048600) (hm : m ≤ 65536) (hb : RdBlk w g a n cap p e) (h0 : e = 0 → 0 < n) (hbg : ∀ b off, a = some ⟨b, off, none⟩ → b ≠ g) :
    Calls Try.prog 83 #[.pointer (some ⟨g, 0, none⟩), .int .i64 (m : Nat)] w (TextRd bs g a n cap p e m w) := by
  have HS := Lib.hid hs
  have HLn := Lib.hid hs.1
  have HBK := Lib.hid hb
  obtain ⟨⟨c0, c1, c2⟩, ⟨f1, f2⟩, hgl⟩ := hb.box
  clear hs hb
  have HNG := Lib.hid hbg
  have H00 := Lib.hid h0
  clear hbg h0
  by_cases he : e = 0
  case' neg =>
    have HTR : Hid (textR bs p e m = ([], p, e)) := Lib.hid (by unfold textR; rw [if_pos he])
    have ee : (e == 0) = false := by simp [he]
    have ee2 : (e != 0) = true := by simp [he]
    unfold TextRd
    rw [HTR.out]
    clear he HTR
    go_enter Try.func83, Try.ntmps83
    go_wp2_with fail
    go_quiet (fail)
    have hy : Below w.heap.size w (w.drewN nq) := bdrewN (Below.refl _ _) nq
    obtain ⟨y1, hy1⟩ : ∃ y1, y1 = w.drewN nq := ⟨_, rfl⟩
    rw [← hy1] at hy ⊢
    have HY1 := Lib.hid hy
    have HB1 := Lib.hid (HBK.out.below hy)
    clear hy hy1 c0 c1 c2 f1 f2
    obtain ⟨⟨c0, c1, c2⟩, ⟨f1, f2⟩, hg1⟩ := HB1.out.box
    go_wp2_with fail
    go_ret
    exact ⟨rfl, HB1.out, grown_belowK HY1.out⟩
  subst he
  by_cases hsh : (n : Int) - p < m
  · have HTR : Hid (textR bs p 0 m = ([], p, 6)) := Lib.hid (by unfold textR; rw [if_neg (by decide), if_pos (by rw [HLn.out]; exact hsh)])
    have e2 : decide ((n : Int) - p < m) = true := by simp; omega
    unfold TextRd
    rw [HTR.out]
    clear HTR hsh
    go_enter Try.func83, Try.ntmps83
    go_wp2_with fail
    go_quiet (fail)
    have hy : Below w.heap.size w (w.drewN nq) := bdrewN (Below.refl _ _) nq
    obtain ⟨y1, hy1⟩ : ∃ y1, y1 = w.drewN nq := ⟨_, rfl⟩
    rw [← hy1] at hy ⊢
    have HY1 := Lib.hid hy
    have HB1 := Lib.hid (HBK.out.below hy)
    clear hy hy1 c0 c1 c2 f1 f2
    obtain ⟨⟨c0, c1, c2⟩, ⟨f1, f2⟩, hg1⟩ := HB1.out.box
    go_wp2_with fail
    go_ret
    exact ⟨rfl, HB1.out.set2, grown_setK (grown_belowK HY1.out)⟩
  · have HTR : Hid (textR bs p 0 m = ((bs.drop p).take m, p + m, 0)) := Lib.hid (by unfold textR; rw [if_neg (by decide), if_neg (by rw [HLn.out]; exact hsh)])
    have e2 : decide ((n : Int) - p < m) = false := by simp; omega
    have hpm : p + m ≤ n := by omega
    unfold TextRd
    rw [HTR.out]
    clear HTR hsh
    go_enter Try.func83, Try.ntmps83
    go_wp2_with fail
    go_quiet (fail)
    have hy : Below w.heap.size w (w.drewN nq) := bdrewN (Below.refl _ _) nq
    obtain ⟨y1, hy1⟩ : ∃ y1, y1 = w.drewN nq := ⟨_, rfl⟩
    rw [← hy1] at hy ⊢
    have HY1 := Lib.hid hy
    have HB1 := Lib.hid (HBK.out.below hy)
    clear hy hy1 c0 c1 c2 f1 f2
    obtain ⟨⟨c0, c1, c2⟩, ⟨f1, f2⟩, hg1⟩ := HB1.out.box
    go_wp2_with fail
    have HK2 := Lib.hid (show RdBlk (y1.setCell ⟨g, 1, none⟩ (.int .i64 ((p : Int) + (m : Int)))) g a n cap (p + m) 0 from HB1.out.set1)
    have HG2 := Lib.hid (show w.grownBy (y1.setCell ⟨g, 1, none⟩ (.int .i64 ((p : Int) + (m : Int)))) (some g) from grown_setK (grown_belowK HY1.out))
    clear c0 c1 c2 f1 f2
    obtain ⟨b, off, rfl, hbl, _⟩ := HS.out.2 (H00.out (by trivial))
    have HSX := Lib.hid (HS.out.grownK HG2.out HNG.out)
    generalize y1.setCell ⟨g, 1, none⟩ (.int .i64 ((p : Int) + (m : Int))) = X at *
    obtain ⟨⟨c0, c1, c2⟩, _, hgX⟩ := HK2.out.box
    have i1 : (0 : Int) ≤ (p : Int) := by omega
    have i2 : (p : Int) ≤ (p : Int) + m := by omega
    have i3 : (p : Int) + m ≤ cap := by omega
    have i4 : (p : Int) + m - m = p := by omega
    by_cases hcp : cap = p
    · obtain rfl : m = 0 := by omega
      have cv := fun k => run_conv (w := X.drewN k) (a := some ⟨b, off, none⟩) (Sl.nil _ _) (cap - p)
      subst hcp
      simp only [Nat.sub_self] at cv
      go_quiet (fail)
      go_wp2_with fail
      go_ret
      exact ⟨by rw [List.take_zero]; rfl, HK2.out.below (bdrewN (Below.refl _ _) nq), ⟨HG2.out.os, HG2.out.tape, HG2.out.output, HG2.out.size, HG2.out.block⟩⟩
    · have hs2 : Sl encB X (some ⟨b, off + p, none⟩) m ((bs.drop p).take m) := by
        by_cases hpn : p < n
        · obtain ⟨b', off', he, hs⟩ := HSX.out.drop hpn
          cases he
          exact hs.take (by omega)
        · obtain rfl : m = 0 := by omega
          rw [List.take_zero]
          exact Sl.nil _ _
      have cv := fun k => run_conv (w := X.drewN k) (hs2.below (bdrewN (Below.refl _ _) k)) (cap - p)
      clear hs2
      go_quiet (fail)
      go_wp2_with fail
      go_ret
      exact ⟨rfl, HK2.out.below (bdrewN (Below.refl _ _) nq), ⟨HG2.out.os, HG2.out.tape, HG2.out.output, HG2.out.size, HG2.out.block⟩⟩
end Go.Proofs.Ytnfhiakdbakpgaa
/- pool: the reader's one. No condition. -/
namespace Go.Proofs.Ytnfhiakdbakpgaa
open Go.ChangeShapes Go.WideShapes Go.ChangeAt Go.RowKit
/-- A place that is read: the constant, the place behind, what is wrong. -/
def oneR (bs : List UInt8) (p : Nat) : KV × Nat × Int :=
  let a := nextR bs p 0 1
  if a.2.2 ≠ 0 then (⟨a.1, 0, 0, 0, []⟩, a.2.1, a.2.2)
  else if a.1 = 1 then
    let b := nextR bs a.2.1 0 2
    let c := textR bs b.2.1 b.2.2 b.1.toNat
    (⟨1, 0, 0, 0, c.1⟩, c.2.1, c.2.2)
  else if a.1 = 3 then
    let b := nextR bs a.2.1 0 4
    (⟨3, 0, 0, signB b.1 4, []⟩, b.2.1, b.2.2)
  else if a.1 = 5 then
    let b := nextR bs a.2.1 0 8
    (⟨5, 0, 0, signB b.1 8, []⟩, b.2.1, b.2.2)
  else if a.1 = 7 ∨ a.1 = 8 then
    let b := nextR bs a.2.1 0 2
    (⟨a.1, b.1, 0, 0, []⟩, b.2.1, b.2.2)
  else if a.1 = 9 ∨ a.1 = 10 ∨ a.1 = 12 then
    let b := nextR bs a.2.1 0 4
    (⟨a.1, b.1 / 65536, b.1 % 65536, 0, []⟩, b.2.1, b.2.2)
  else (⟨a.1, 0, 0, 0, []⟩, a.2.1, 8)
theorem getR_boundK (bs : List UInt8) (i n : Int) : U64 (getR bs i n).1 := by
  unfold getR U64
  by_cases h1 : n < 1 ∨ 8 < n
  · rw [if_pos h1]; exact ⟨by decide, by decide⟩
  rw [if_neg h1]
  by_cases h2 : i < 0 ∨ (bs.length : Int) < i ∨ (bs.length : Int) - i < n
  · rw [if_pos h2]; exact ⟨by decide, by decide⟩
  rw [if_neg h2]
  have h3 := getN_lt ((bs.drop i.toNat).take n.toNat)
  have h4 : 256 ^ ((bs.drop i.toNat).take n.toNat).length ≤ 256 ^ 8 := Nat.pow_le_pow_right (by decide) (by simp; omega)
  simp only
  omega
theorem getR_smallK (bs : List UInt8) (i n : Int) (m : Nat) (hn : n ≤ m) (hm : m ≤ 8) : (getR bs i n).1 < ((256 ^ m : Nat) : Int) := by
  have hp : 0 < 256 ^ m := Nat.pow_pos (by decide)
  unfold getR
  by_cases h1 : n < 1 ∨ 8 < n
  · rw [if_pos h1]; exact Int.ofNat_lt.2 hp
  rw [if_neg h1]
  by_cases h2 : i < 0 ∨ (bs.length : Int) < i ∨ (bs.length : Int) - i < n
  · rw [if_pos h2]; exact Int.ofNat_lt.2 hp
  rw [if_neg h2]
  have h3 := getN_lt ((bs.drop i.toNat).take n.toNat)
  have h4 : 256 ^ ((bs.drop i.toNat).take n.toNat).length ≤ 256 ^ m := Nat.pow_le_pow_right (by decide) (by simp; omega)
  exact Int.ofNat_lt.2 (Nat.lt_of_lt_of_le h3 h4)
theorem next_bound (bs : List UInt8) (p : Nat) (e : Int) (m : Nat) (hm : m ≤ 8) : 0 ≤ (nextR bs p e m).1 ∧ (nextR bs p e m).1 < ((256 ^ m : Nat) : Int) := by
  unfold nextR
  split
  · exact ⟨(getR_boundK _ _ _).1, getR_smallK _ _ _ _ (by omega) hm⟩
  · exact ⟨Int.le_refl _, Int.ofNat_lt.2 (Nat.pow_pos (by decide))⟩
theorem next_place (bs : List UInt8) (p : Nat) (e : Int) (m : Nat) : (nextR bs p e m).2.1 ≤ p + m := by
  unfold nextR; split <;> simp
/-- What is right is within the bytes. -/
theorem next_ok (bs : List UInt8) (p m : Nat) (h : (nextR bs p 0 m).2.2 = 0) : 1 ≤ m ∧ p + m ≤ bs.length := by
  unfold nextR at h
  rw [if_pos rfl] at h
  simp only at h
  unfold getR at h
  by_cases h1 : (m : Int) < 1 ∨ 8 < (m : Int)
  · rw [if_pos h1] at h; cases h
  rw [if_neg h1] at h
  by_cases h2 : (p : Int) < 0 ∨ (bs.length : Int) < p ∨ (bs.length : Int) - p < m
  · rw [if_pos h2] at h; cases h
  omega
end Go.Proofs.Ytnfhiakdbakpgaa
