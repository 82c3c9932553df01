/- nor: the same done to both flashes. No condition. -/
import Derived.Test.YtjlcgffcfhfffaaNorActs
namespace Go.Proofs.Ytjlcgffcfhfffaa
open Go.ChangeShapes Go.WideShapes Go.ChangeAt Go.RowKit
/-- Nothing but these blocks has turned. -/
structure KeptL (bs : List Nat) (w w' : World) : Prop where
  os : w'.os = w.os
  tape : w'.tape = w.tape
  output : w'.output = w.output
  size : w.heap.size ≤ w'.heap.size
  block : ∀ k, k < w.heap.size → k ∉ bs → w'.heap[k]? = w.heap[k]?
theorem KeptL.refl (bs : List Nat) (w : World) : KeptL bs w w := ⟨rfl, rfl, rfl, Nat.le_refl _, fun _ _ _ => rfl⟩
theorem KeptL.trans {bs : List Nat} {w w1 w2 : World} (h : KeptL bs w w1) (h2 : KeptL bs w1 w2) : KeptL bs w w2 :=
  ⟨h2.os.trans h.os, h2.tape.trans h.tape, h2.output.trans h.output, Nat.le_trans h.size h2.size, fun k hk a => by rw [h2.block k (Nat.lt_of_lt_of_le hk h.size) a, h.block k hk a]⟩
theorem KeptL.ofBelow {bs : List Nat} {w w1 : World} (h : Below w.heap.size w w1) : KeptL bs w w1 := ⟨h.os, h.tape, h.output, h.size, fun k hk _ => h.block k hk⟩
theorem Kept.list {bs : List Nat} {g gb gc : Nat} {w w1 : World} (h : Kept g gb gc w w1) (h1 : g ∈ bs) (h2 : gb ∈ bs) (h3 : gc ∈ bs) : KeptL bs w w1 :=
  ⟨h.os, h.tape, h.output, h.size, fun k hk a => h.block k hk (fun e => a (e ▸ h1)) (fun e => a (e ▸ h2)) (fun e => a (e ▸ h3))⟩
theorem KeptL.below {bs : List Nat} {B : Nat} {w0 w w' : World} (h : KeptL bs w w') (hb : Below B w0 w) (hB : B ≤ w0.heap.size) (h1 : ∀ x ∈ bs, B ≤ x) : Below B w0 w' :=
  ⟨h.os.trans hb.os, h.tape.trans hb.tape, h.output.trans hb.output, Nat.le_trans hb.size h.size, fun k hk => by
    rw [h.block k (Nat.lt_of_lt_of_le (Nat.lt_of_lt_of_le hk hB) hb.size) (fun e => absurd (h1 k e) (by omega))]; exact hb.block k hk⟩
theorem Sl.keptL {α : Type} {enc : α → Value} {bs : List Nat} {w w' : World} {x : Option Addr} {n : Nat} {xs : List α} (hs : Sl enc w x n xs) (h : KeptL bs w w') (h1 : ∀ g ∈ bs, NotIn x n g) : Sl enc w' x n xs := by
  refine ⟨hs.1, fun hn => ?_⟩
  obtain ⟨b, off, ha, hlt, hc⟩ := hs.2 hn
  refine ⟨b, off, ha, Nat.lt_of_lt_of_le hlt h.size, fun i hi => ?_⟩
  rw [← hc i hi]
  unfold World.cell?
  rw [h.block b hlt (fun e => h1 b e hn b off ha rfl)]
/-- Two flashes whose blocks are apart. -/
structure Apart6 (g gb gc h hb hc : Nat) : Prop where
  a1 : h ≠ g ∧ h ≠ gb ∧ h ≠ gc
  a2 : hb ≠ g ∧ hb ≠ gb ∧ hb ≠ gc
  a3 : hc ≠ g ∧ hc ≠ gb ∧ hc ≠ gc
theorem Apart6.swap {g gb gc h hb hc : Nat} (a : Apart6 g gb gc h hb hc) : Apart6 h hb hc g gb gc :=
  ⟨⟨Ne.symm a.a1.1, Ne.symm a.a2.1, Ne.symm a.a3.1⟩, ⟨Ne.symm a.a1.2.1, Ne.symm a.a2.2.1, Ne.symm a.a3.2.1⟩, ⟨Ne.symm a.a1.2.2, Ne.symm a.a2.2.2, Ne.symm a.a3.2.2⟩⟩
theorem IsFl.apart {tF eb ec : TypeId} {w w' : World} {g gb gc h hb hc cb cc : Nat} {f : Fl} (hf : IsFl tF eb ec w h hb hc cb cc f) (hk : Kept g gb gc w w') (a : Apart6 g gb gc h hb hc) : IsFl tF eb ec w' h hb hc cb cc f := hf.kept hk a.a1 a.a2 a.a3
/-- A block of cells. -/
def BoxAt (b : Nat) (C : Array Value) (t : TypeId) (x : World) : Prop := x.heap[b]? = some (.cells C t)
theorem BoxAt.cell {b : Nat} {C : Array Value} {t : TypeId} {x : World} (h : BoxAt b C t x) (i : Nat) : x.cell? ⟨b, i, none⟩ = C[i]? := by rw [cell_of_row x b i _ _ _ h]
theorem BoxAt.kept {b : Nat} {C : Array Value} {t : TypeId} {x y : World} {g gb gc : Nat} (h : BoxAt b C t x) (hk : Kept g gb gc x y) (h1 : b ≠ g ∧ b ≠ gb ∧ b ≠ gc) : BoxAt b C t y := by
  unfold BoxAt at *
  rw [hk.block b (Array.getElem?_eq_some_iff.1 h).1 h1.1 h1.2.1 h1.2.2]; exact h
theorem BoxAt.below {b : Nat} {C : Array Value} {t : TypeId} {x y : World} (h : BoxAt b C t x) (hb : Below x.heap.size x y) : BoxAt b C t y := by
  unfold BoxAt at *
  rw [hb.block b (Array.getElem?_eq_some_iff.1 h).1]; exact h
theorem own_set {w : World} {B : Nat} {e : TypeId} {g n c : Nat} {xs : List Value} (h : w.ownsRow B e 1 (.slice (some ⟨g, 0, none⟩) n c) n xs) (i : Nat) (v : Value) : (w.setCell ⟨g, i, none⟩ v).ownsRow B e 1 (.slice (some ⟨g, 0, none⟩) n c) n (xs.set i v) := by
  refine ⟨by simpa using h.1, .inr ?_⟩
  rcases h.2 with ⟨h2, _⟩ | ⟨g', cap', cur, hv, hb, hg, h3, h4, h5, h6⟩
  · cases h2
  · cases hv
    refine ⟨g, c, cur.setIfInBounds i v, rfl, hb, heap_setC hg i v, h3, h4, by simpa using h5, ?_⟩
    rw [← h6, Array.toList_setIfInBounds, List.take_set]
theorem own_melt {w : World} {B : Nat} {e : TypeId} {g n c : Nat} {xs : List Value} (h : w.ownsRow B e 1 (.slice (some ⟨g, 0, none⟩) n c) n xs) (i : Nat) : w.frozen? ⟨g, i, none⟩ = false := by
  rcases h.2 with ⟨h2, _⟩ | ⟨g', cap', cur, hv, hb, hg, _⟩
  · cases h2
  · cases hv
    unfold World.frozen?
    rw [hg]
    rfl
theorem u8_inc (x : UInt8) : ((x.toNat : Int) + 1) % 256 = ((x + 1).toNat : Int) := by
  rw [UInt8.toNat_add]
  show _ = (((x.toNat + 1) % 256 : Nat) : Int)
  omega
/-- The same geometry. -/
def SameG (f f' : Fl) : Prop := f'.S = f.S ∧ f'.Z = f.Z ∧ f'.L = f.L
theorem geo_prog (f : Fl) (p : Int) (b : List UInt8) : SameG f (f.prog p b) := by
  obtain ⟨t1, t2, t3, _⟩ := f.tick_fields
  unfold SameG Fl.prog
  split
  · exact ⟨t1, t2, t3⟩
  · exact ⟨rfl, rfl, rfl⟩
theorem geo_erase (f : Fl) (s : Int) : SameG f (f.erase s) := by
  obtain ⟨t1, t2, t3, _⟩ := f.tick_fields
  unfold SameG Fl.erase
  split
  · exact ⟨t1, t2, t3⟩
  · exact ⟨rfl, rfl, rfl⟩
/-- What do leaves. -/
def DoneRet (w : World) (g gb gc cb cc h hb hc db dc : Nat) (f : Fl) (e : Ending) (w' : World) : Prop :=
  e = .returned (.bool true) ∧ (∃ f', FlA w' g gb gc cb cc f' ∧ FlB w' h hb hc db dc f' ∧ SameG f f') ∧ KeptL [g, gb, gc, h, hb, hc] w w'
set_option maxRecDepth 100000 in
set_option maxHeartbeats 4000000 in
theorem do_reset (w : World) (g gb gc cb cc h hb hc db dc : Nat) (f : Fl) (hA : FlA w g gb gc cb cc f) (hB : FlB w h hb hc db dc f) (ap : Apart6 g gb gc h hb hc) (kd : Nat) (p n : Int) (x : Option Addr) (m cm : Nat) (ds : List UInt8) (keep : Int) (mask : UInt8) (hkd : kd ≤ 255) (hp : IntR p) (hn : IntR n) (hk : IntR keep) (hs : Sl encB w x m ds) (hm : m ≤ cm) (hmm : m ≤ maxLen) (hx : ∀ b ∈ [g, gb, gc, h, hb, hc], NotIn x m b) (h4 : kd % 5 = 4) :
    Calls Try.prog 20 #[.pointer (some ⟨g, 0, none⟩), .pointer (some ⟨h, 0, none⟩), .agg #[.int .u8 kd, .int .i64 p, .int .i64 n, .slice x m cm, .int .i64 keep, .int .u8 (mask.toNat : Int)]] w (DoneRet w g gb gc cb cc h hb hc db dc f) := by
  have e4 : (kd : Int) % 5 = 4 := by omega
  have hb0 : Below w.heap.size w (w.alloc (.cells #[.int .u8 kd, .int .i64 p, .int .i64 n, .slice x m cm, .int .i64 keep, .int .u8 (mask.toNat : Int)] 49)) := (Below.refl _ _).alloc (Nat.le_refl _) _
  have HA := Lib.hid (hA.below hb0)
  have HB := Lib.hid (hB.below hb0)
  have HK := Lib.hid (KeptL.ofBelow (bs := [g, gb, gc, h, hb, hc]) hb0)
  have AP := Lib.hid ap
  have hl := hA.lt
  have hX := heap_alloc_last w (.cells #[.int .u8 kd, .int .i64 p, .int .i64 n, .slice x m cm, .int .i64 keep, .int .u8 (mask.toNat : Int)] 49)
  have BX := Lib.hid (show BoxAt w.heap.size _ _ _ from hX)
  clear hX
  go_enter Try.func20, Try.ntmps20
  go_upto_region 1 with fail
  generalize w.alloc (.cells #[.int .u8 kd, .int .i64 p, .int .i64 n, .slice x m cm, .int .i64 keep, .int .u8 (mask.toNat : Int)] 49) = W at HA HB HK BX ⊢
  have c0 : W.cell? ⟨w.heap.size, 0, none⟩ = some (.int .u8 kd) := BX.out.cell 0
  clear hA hB hb0 hs hx h4
  go_wp2_with fail
  with_reducible refine (Reset_any W g gb gc cb cc f HA.out).mono ?_
  rintro e w1 ⟨rfl, hF, hkk⟩
  replace HA := Lib.hid hF
  replace HB := Lib.hid (HB.out.apart hkk AP.out)
  replace HK := Lib.hid (HK.out.trans (hkk.list (by simp) (by simp) (by simp)))
  clear hF hkk c0
  go_wp2_with fail
  with_reducible refine (refReset_any w1 h hb hc db dc f HB.out).mono ?_
  rintro e w2 ⟨rfl, hF, hkk⟩
  replace HB := Lib.hid hF
  replace HA := Lib.hid (HA.out.apart hkk AP.out.swap)
  replace HK := Lib.hid (HK.out.trans (hkk.list (by simp) (by simp) (by simp)))
  clear hF hkk
  go_wp2_with fail
  go_ret
  exact ⟨rfl, ⟨_, HA.out, HB.out, rfl, rfl, rfl⟩, HK.out⟩
set_option maxRecDepth 100000 in
set_option maxHeartbeats 4000000 in
theorem do_fuse (w : World) (g gb gc cb cc h hb hc db dc : Nat) (f : Fl) (hA : FlA w g gb gc cb cc f) (hB : FlB w h hb hc db dc f) (ap : Apart6 g gb gc h hb hc) (kd : Nat) (p n : Int) (x : Option Addr) (m cm : Nat) (ds : List UInt8) (keep : Int) (mask : UInt8) (hkd : kd ≤ 255) (hp : IntR p) (hn : IntR n) (hk : IntR keep) (hs : Sl encB w x m ds) (hm : m ≤ cm) (hmm : m ≤ maxLen) (hx : ∀ b ∈ [g, gb, gc, h, hb, hc], NotIn x m b) (h4 : kd % 5 = 3) :
    Calls Try.prog 20 #[.pointer (some ⟨g, 0, none⟩), .pointer (some ⟨h, 0, none⟩), .agg #[.int .u8 kd, .int .i64 p, .int .i64 n, .slice x m cm, .int .i64 keep, .int .u8 (mask.toNat : Int)]] w (DoneRet w g gb gc cb cc h hb hc db dc f) := by
  have e4 : (kd : Int) % 5 = 3 := by omega
  have hb0 : Below w.heap.size w (w.alloc (.cells #[.int .u8 kd, .int .i64 p, .int .i64 n, .slice x m cm, .int .i64 keep, .int .u8 (mask.toNat : Int)] 49)) := (Below.refl _ _).alloc (Nat.le_refl _) _
  have HA := Lib.hid (hA.below hb0)
  have HB := Lib.hid (hB.below hb0)
  have HK := Lib.hid (KeptL.ofBelow (bs := [g, gb, gc, h, hb, hc]) hb0)
  have AP := Lib.hid ap
  have hl := hA.lt
  have hl2 := hB.lt
  have hX := heap_alloc_last w (.cells #[.int .u8 kd, .int .i64 p, .int .i64 n, .slice x m cm, .int .i64 keep, .int .u8 (mask.toNat : Int)] 49)
  have BX := Lib.hid (show BoxAt w.heap.size _ _ _ from hX)
  clear hX
  go_enter Try.func20, Try.ntmps20
  go_upto_region 1 with fail
  generalize w.alloc (.cells #[.int .u8 kd, .int .i64 p, .int .i64 n, .slice x m cm, .int .i64 keep, .int .u8 (mask.toNat : Int)] 49) = W at HA HB HK BX ⊢
  have c0 : W.cell? ⟨w.heap.size, 0, none⟩ = some (.int .u8 kd) := BX.out.cell 0
  have c2 : W.cell? ⟨w.heap.size, 2, none⟩ = some (.int .i64 n) := BX.out.cell 2
  have c4 : W.cell? ⟨w.heap.size, 4, none⟩ = some (.int .i64 keep) := BX.out.cell 4
  have c5 : W.cell? ⟨w.heap.size, 5, none⟩ = some (.int .u8 (mask.toNat : Int)) := BX.out.cell 5
  clear hA hB hb0 hs hx h4
  go_wp2_with fail
  with_reducible refine (Fuse_any W g gb gc cb cc f HA.out n keep mask hn hk).mono ?_
  rintro e w1 ⟨rfl, hF, hkk⟩
  replace HA := Lib.hid hF
  replace HB := Lib.hid (HB.out.apart hkk AP.out)
  replace HK := Lib.hid (HK.out.trans (hkk.list (by simp) (by simp) (by simp)))
  replace BX := Lib.hid (BX.out.kept hkk ⟨by omega, by omega, by omega⟩)
  clear hF hkk c0 c2 c4 c5
  have c2 : w1.cell? ⟨w.heap.size, 2, none⟩ = some (.int .i64 n) := BX.out.cell 2
  have c4 : w1.cell? ⟨w.heap.size, 4, none⟩ = some (.int .i64 keep) := BX.out.cell 4
  have c5 : w1.cell? ⟨w.heap.size, 5, none⟩ = some (.int .u8 (mask.toNat : Int)) := BX.out.cell 5
  go_wp2_with fail
  with_reducible refine (refFuse_any w1 h hb hc db dc f HB.out n keep mask hn hk).mono ?_
  rintro e w2 ⟨rfl, hF, hkk⟩
  replace HB := Lib.hid hF
  replace HA := Lib.hid (HA.out.apart hkk AP.out.swap)
  replace HK := Lib.hid (HK.out.trans (hkk.list (by simp) (by simp) (by simp)))
  clear hF hkk c2 c4 c5
  go_wp2_with fail
  go_ret
  exact ⟨rfl, ⟨_, HA.out, HB.out, rfl, rfl, rfl⟩, HK.out⟩
set_option maxRecDepth 100000 in
set_option maxHeartbeats 8000000 in
theorem do_program (w : World) (g gb gc cb cc h hb hc db dc : Nat) (f : Fl) (hA : FlA w g gb gc cb cc f) (hB : FlB w h hb hc db dc f) (ap : Apart6 g gb gc h hb hc) (kd : Nat) (p n : Int) (x : Option Addr) (m cm : Nat) (ds : List UInt8) (keep : Int) (mask : UInt8) (hkd : kd ≤ 255) (hp : IntR p) (hn : IntR n) (hk : IntR keep) (hs : Sl encB w x m ds) (hm : m ≤ cm) (hmm : m ≤ maxLen) (hx : ∀ b ∈ [g, gb, gc, h, hb, hc], NotIn x m b) (h4 : kd % 5 = 0) :
    Calls Try.prog 20 #[.pointer (some ⟨g, 0, none⟩), .pointer (some ⟨h, 0, none⟩), .agg #[.int .u8 kd, .int .i64 p, .int .i64 n, .slice x m cm, .int .i64 keep, .int .u8 (mask.toNat : Int)]] w (DoneRet w g gb gc cb cc h hb hc db dc f) := by
  have e4 : (kd : Int) % 5 = 0 := by omega
  have hb0 : Below w.heap.size w (w.alloc (.cells #[.int .u8 kd, .int .i64 p, .int .i64 n, .slice x m cm, .int .i64 keep, .int .u8 (mask.toNat : Int)] 49)) := (Below.refl _ _).alloc (Nat.le_refl _) _
  have HA := Lib.hid (hA.below hb0)
  have HB := Lib.hid (hB.below hb0)
  have HK := Lib.hid (KeptL.ofBelow (bs := [g, gb, gc, h, hb, hc]) hb0)
  have HS := Lib.hid (hs.below hb0)
  have HX := Lib.hid hx
  have AP := Lib.hid ap
  have hl := hA.lt
  have hl2 := hB.lt
  have hX := heap_alloc_last w (.cells #[.int .u8 kd, .int .i64 p, .int .i64 n, .slice x m cm, .int .i64 keep, .int .u8 (mask.toNat : Int)] 49)
  have BX := Lib.hid (show BoxAt w.heap.size _ _ _ from hX)
  clear hX
  go_enter Try.func20, Try.ntmps20
  go_upto_region 1 with fail
  generalize w.alloc (.cells #[.int .u8 kd, .int .i64 p, .int .i64 n, .slice x m cm, .int .i64 keep, .int .u8 (mask.toNat : Int)] 49) = W0 at HA HB HK BX HS ⊢
  have c0 : W0.cell? ⟨w.heap.size, 0, none⟩ = some (.int .u8 kd) := BX.out.cell 0
  clear hA hB hb0 hs hx h4
  go_upto_region 3 with fail
  refine wp_region_lexS (BoxAt w.heap.size #[.int .u8 kd, .int .i64 p, .int .i64 n, .slice x m cm, .int .i64 keep, .int .u8 (mask.toNat : Int)] 49)
    (.of [(0, true), (1, true), (2, true), (3, true), (4, true), (6, true), (7, true), (8, true), (9, true), (10, true), (5, false), (11, false), (12, true), (13, true)] (.stir [])) (by kernel_rfl) (by kernel_rfl) (fun c a d v w h => by cases d <;> exact h) ?_
  replace HA := Lib.hid HA.out.drew
  replace HB := Lib.hid HB.out.drew
  replace HK := Lib.hid (show KeptL [g, gb, gc, h, hb, hc] w W0.drew from ⟨HK.out.os, HK.out.tape, HK.out.output, HK.out.size, HK.out.block⟩)
  replace HS := Lib.hid (HS.out.below (Below.refl _ _).drew)
  have hSw : BoxAt w.heap.size #[.int .u8 kd, .int .i64 p, .int .i64 n, .slice x m cm, .int .i64 keep, .int .u8 (mask.toNat : Int)] 49 W0.drew := BX.out
  clear c0 BX
  generalize W0.drew = W at HA HB HK HS hSw ⊢
  have L1 := fun w' (h : BoxAt w.heap.size #[.int .u8 kd, .int .i64 p, .int .i64 n, .slice x m cm, .int .i64 keep, .int .u8 (mask.toNat : Int)] 49 w') => (show w'.cell? ⟨w.heap.size, 1, none⟩ = some (.int .i64 p) from h.cell 1)
  have L3 := fun w' (h : BoxAt w.heap.size #[.int .u8 kd, .int .i64 p, .int .i64 n, .slice x m cm, .int .i64 keep, .int .u8 (mask.toNat : Int)] 49 w') => (show w'.cell? ⟨w.heap.size, 3, none⟩ = some (.slice x m cm) from h.cell 3)
  obtain ⟨r, hr⟩ : ∃ r, f.progE p ds = r := ⟨_, rfl⟩
  have HR := Lib.hid hr
  clear hr
  have z1 : (r == r) = true := by simp
  iterate 10
    refine lexS_step (fun K hK => ?_)
    simp only [lexOp, List.getElem?_toArray, List.getElem?_cons_succ, List.getElem?_cons_zero]
    rw [if_pos (by rfl)]
    apply Exists.intro
    refine ⟨fun w' hS' => ?_, hSw, ?_⟩
    · first | (go_simp <;> with_reducible rfl) | (go_simp; go_bits; with_reducible rfl)
    go_simp
    try go_bits
    refine hK _ _ ?_
    clear hK K
  refine lexS_step (fun K hK => ?_)
  simp only [lexOp, List.getElem?_toArray, List.getElem?_cons_succ, List.getElem?_cons_zero]
  rw [if_pos (by rfl)]
  go_step
  have PA := Program_any W g gb gc cb cc f HA.out p x m cm ds HS.out hm hp hmm (HX.out g (by simp)) (HX.out gb (by simp)) (HX.out gc (by simp))
  rw [HR.out] at PA
  with_reducible refine PA.mono ?_
  rintro e w1 ⟨rfl, hF, hkk⟩
  clear PA
  replace HA := Lib.hid hF
  replace HB := Lib.hid (HB.out.apart hkk AP.out)
  replace HK := Lib.hid (HK.out.trans (hkk.list (by simp) (by simp) (by simp)))
  replace HS := Lib.hid (HS.out.kept hkk (HX.out g (by simp)) (HX.out gb (by simp)) (HX.out gc (by simp)))
  replace hSw := hSw.kept hkk ⟨by omega, by omega, by omega⟩
  clear hF hkk
  refine ⟨hSw, ?_⟩
  go_simp
  refine hK _ _ ?_
  clear hK K
  refine lexS_step (fun K hK => ?_)
  simp only [lexOp, List.getElem?_toArray, List.getElem?_cons_succ, List.getElem?_cons_zero]
  rw [if_pos (by rfl)]
  go_step
  have PB := refProgram_any w1 h hb hc db dc f HB.out p x m cm ds HS.out hm hp hmm (HX.out h (by simp)) (HX.out hb (by simp)) (HX.out hc (by simp))
  rw [HR.out] at PB
  with_reducible refine PB.mono ?_
  rintro e w2 ⟨rfl, hF, hkk⟩
  clear PB
  replace HB := Lib.hid hF
  replace HA := Lib.hid (HA.out.apart hkk AP.out.swap)
  replace HK := Lib.hid (HK.out.trans (hkk.list (by simp) (by simp) (by simp)))
  replace hSw := hSw.kept hkk ⟨by omega, by omega, by omega⟩
  clear hF hkk
  refine ⟨hSw, ?_⟩
  go_simp
  refine hK _ _ ?_
  clear hK K
  iterate 2
    refine lexS_step (fun K hK => ?_)
    simp only [lexOp, List.getElem?_toArray, List.getElem?_cons_succ, List.getElem?_cons_zero]
    rw [if_pos (by rfl)]
    apply Exists.intro
    refine ⟨fun w' hS' => ?_, hSw, ?_⟩
    · first | (go_simp <;> with_reducible rfl) | (go_simp; go_bits; with_reducible rfl)
    go_simp
    try go_bits
    refine hK _ _ ?_
    clear hK K
  refine lexS_stir (fun y => y = w2) (fun y hy => hy ▸ hSw) rfl ?_
  refine stir_nil (fun y hy => ?_)
  subst hy
  go_wp2_with fail
  go_ret
  exact ⟨rfl, ⟨_, HA.out, HB.out, geo_prog _ _ _⟩, HK.out⟩
set_option maxRecDepth 100000 in
set_option maxHeartbeats 8000000 in
theorem do_erase (w : World) (g gb gc cb cc h hb hc db dc : Nat) (f : Fl) (hA : FlA w g gb gc cb cc f) (hB : FlB w h hb hc db dc f) (ap : Apart6 g gb gc h hb hc) (kd : Nat) (p n : Int) (x : Option Addr) (m cm : Nat) (ds : List UInt8) (keep : Int) (mask : UInt8) (hkd : kd ≤ 255) (hp : IntR p) (hn : IntR n) (hk : IntR keep) (hs : Sl encB w x m ds) (hm : m ≤ cm) (hmm : m ≤ maxLen) (hx : ∀ b ∈ [g, gb, gc, h, hb, hc], NotIn x m b) (h4 : kd % 5 = 1) :
    Calls Try.prog 20 #[.pointer (some ⟨g, 0, none⟩), .pointer (some ⟨h, 0, none⟩), .agg #[.int .u8 kd, .int .i64 p, .int .i64 n, .slice x m cm, .int .i64 keep, .int .u8 (mask.toNat : Int)]] w (DoneRet w g gb gc cb cc h hb hc db dc f) := by
  have e4 : (kd : Int) % 5 = 1 := by omega
  have hb0 : Below w.heap.size w (w.alloc (.cells #[.int .u8 kd, .int .i64 p, .int .i64 n, .slice x m cm, .int .i64 keep, .int .u8 (mask.toNat : Int)] 49)) := (Below.refl _ _).alloc (Nat.le_refl _) _
  have HA := Lib.hid (hA.below hb0)
  have HB := Lib.hid (hB.below hb0)
  have HK := Lib.hid (KeptL.ofBelow (bs := [g, gb, gc, h, hb, hc]) hb0)
  have HS := Lib.hid (hs.below hb0)
  have HX := Lib.hid hx
  have AP := Lib.hid ap
  have hl := hA.lt
  have hl2 := hB.lt
  have hX := heap_alloc_last w (.cells #[.int .u8 kd, .int .i64 p, .int .i64 n, .slice x m cm, .int .i64 keep, .int .u8 (mask.toNat : Int)] 49)
  have BX := Lib.hid (show BoxAt w.heap.size _ _ _ from hX)
  clear hX
  go_enter Try.func20, Try.ntmps20
  go_upto_region 1 with fail
  generalize w.alloc (.cells #[.int .u8 kd, .int .i64 p, .int .i64 n, .slice x m cm, .int .i64 keep, .int .u8 (mask.toNat : Int)] 49) = W0 at HA HB HK BX HS ⊢
  have c0 : W0.cell? ⟨w.heap.size, 0, none⟩ = some (.int .u8 kd) := BX.out.cell 0
  clear hA hB hb0 hs hx h4
  go_upto_region 5 with fail
  refine wp_region_lexS (BoxAt w.heap.size #[.int .u8 kd, .int .i64 p, .int .i64 n, .slice x m cm, .int .i64 keep, .int .u8 (mask.toNat : Int)] 49)
    (.of [(0, true), (1, true), (2, true), (4, true), (5, true), (6, true), (3, false), (7, false), (8, true), (9, true)] (.stir [])) (by kernel_rfl) (by kernel_rfl) (fun c a d v w h => by cases d <;> exact h) ?_
  replace HA := Lib.hid HA.out.drew
  replace HB := Lib.hid HB.out.drew
  replace HK := Lib.hid (show KeptL [g, gb, gc, h, hb, hc] w W0.drew from ⟨HK.out.os, HK.out.tape, HK.out.output, HK.out.size, HK.out.block⟩)
  replace HS := Lib.hid (HS.out.below (Below.refl _ _).drew)
  have hSw : BoxAt w.heap.size #[.int .u8 kd, .int .i64 p, .int .i64 n, .slice x m cm, .int .i64 keep, .int .u8 (mask.toNat : Int)] 49 W0.drew := BX.out
  clear c0 BX
  generalize W0.drew = W at HA HB HK HS hSw ⊢
  have L1 := fun w' (h : BoxAt w.heap.size #[.int .u8 kd, .int .i64 p, .int .i64 n, .slice x m cm, .int .i64 keep, .int .u8 (mask.toNat : Int)] 49 w') => (show w'.cell? ⟨w.heap.size, 1, none⟩ = some (.int .i64 p) from h.cell 1)
  have L3 := fun w' (h : BoxAt w.heap.size #[.int .u8 kd, .int .i64 p, .int .i64 n, .slice x m cm, .int .i64 keep, .int .u8 (mask.toNat : Int)] 49 w') => (show w'.cell? ⟨w.heap.size, 3, none⟩ = some (.slice x m cm) from h.cell 3)
  obtain ⟨r, hr⟩ : ∃ r, f.eraseE p = r := ⟨_, rfl⟩
  have HR := Lib.hid hr
  clear hr
  have z1 : (r == r) = true := by simp
  iterate 6
    refine lexS_step (fun K hK => ?_)
    simp only [lexOp, List.getElem?_toArray, List.getElem?_cons_succ, List.getElem?_cons_zero]
    rw [if_pos (by rfl)]
    apply Exists.intro
    refine ⟨fun w' hS' => ?_, hSw, ?_⟩
    · first | (go_simp <;> with_reducible rfl) | (go_simp; go_bits; with_reducible rfl)
    go_simp
    try go_bits
    refine hK _ _ ?_
    clear hK K
  refine lexS_step (fun K hK => ?_)
  simp only [lexOp, List.getElem?_toArray, List.getElem?_cons_succ, List.getElem?_cons_zero]
  rw [if_pos (by rfl)]
  go_step
  have PA := Erase_any W g gb gc cb cc f HA.out p hp
  rw [HR.out] at PA
  with_reducible refine PA.mono ?_
  rintro e w1 ⟨rfl, hF, hkk⟩
  clear PA
  replace HA := Lib.hid hF
  replace HB := Lib.hid (HB.out.apart hkk AP.out)
  replace HK := Lib.hid (HK.out.trans (hkk.list (by simp) (by simp) (by simp)))
  replace HS := Lib.hid (HS.out.kept hkk (HX.out g (by simp)) (HX.out gb (by simp)) (HX.out gc (by simp)))
  replace hSw := hSw.kept hkk ⟨by omega, by omega, by omega⟩
  clear hF hkk
  refine ⟨hSw, ?_⟩
  go_simp
  refine hK _ _ ?_
  clear hK K
  refine lexS_step (fun K hK => ?_)
  simp only [lexOp, List.getElem?_toArray, List.getElem?_cons_succ, List.getElem?_cons_zero]
  rw [if_pos (by rfl)]
  go_step
  have PB := refErase_any w1 h hb hc db dc f HB.out p hp
  rw [HR.out] at PB
  with_reducible refine PB.mono ?_
  rintro e w2 ⟨rfl, hF, hkk⟩
  clear PB
  replace HB := Lib.hid hF
  replace HA := Lib.hid (HA.out.apart hkk AP.out.swap)
  replace HK := Lib.hid (HK.out.trans (hkk.list (by simp) (by simp) (by simp)))
  replace hSw := hSw.kept hkk ⟨by omega, by omega, by omega⟩
  clear hF hkk
  refine ⟨hSw, ?_⟩
  go_simp
  refine hK _ _ ?_
  clear hK K
  iterate 2
    refine lexS_step (fun K hK => ?_)
    simp only [lexOp, List.getElem?_toArray, List.getElem?_cons_succ, List.getElem?_cons_zero]
    rw [if_pos (by rfl)]
    apply Exists.intro
    refine ⟨fun w' hS' => ?_, hSw, ?_⟩
    · first | (go_simp <;> with_reducible rfl) | (go_simp; go_bits; with_reducible rfl)
    go_simp
    try go_bits
    refine hK _ _ ?_
    clear hK K
  refine lexS_stir (fun y => y = w2) (fun y hy => hy ▸ hSw) rfl ?_
  refine stir_nil (fun y hy => ?_)
  subst hy
  go_wp2_with fail
  go_ret
  exact ⟨rfl, ⟨_, HA.out, HB.out, geo_erase _ _⟩, HK.out⟩
set_option maxRecDepth 100000 in
set_option maxHeartbeats 8000000 in
theorem do_read (w : World) (g gb gc cb cc h hb hc db dc : Nat) (f : Fl) (hA : FlA w g gb gc cb cc f) (hB : FlB w h hb hc db dc f) (ap : Apart6 g gb gc h hb hc) (kd : Nat) (p n : Int) (x : Option Addr) (m cm : Nat) (ds : List UInt8) (keep : Int) (mask : UInt8) (hkd : kd ≤ 255) (hp : IntR p) (hn : IntR n) (hk : IntR keep) (hs : Sl encB w x m ds) (hm : m ≤ cm) (hmm : m ≤ maxLen) (hx : ∀ b ∈ [g, gb, gc, h, hb, hc], NotIn x m b) (h4 : kd % 5 = 2) :
    Calls Try.prog 20 #[.pointer (some ⟨g, 0, none⟩), .pointer (some ⟨h, 0, none⟩), .agg #[.int .u8 kd, .int .i64 p, .int .i64 n, .slice x m cm, .int .i64 keep, .int .u8 (mask.toNat : Int)]] w (DoneRet w g gb gc cb cc h hb hc db dc f) := by
  have e4 : (kd : Int) % 5 = 2 := by omega
  have hb0 : Below w.heap.size w (w.alloc (.cells #[.int .u8 kd, .int .i64 p, .int .i64 n, .slice x m cm, .int .i64 keep, .int .u8 (mask.toNat : Int)] 49)) := (Below.refl _ _).alloc (Nat.le_refl _) _
  have HA := Lib.hid (hA.below hb0)
  have HB := Lib.hid (hB.below hb0)
  have HW := Lib.hid hb0
  have hX := heap_alloc_last w (.cells #[.int .u8 kd, .int .i64 p, .int .i64 n, .slice x m cm, .int .i64 keep, .int .u8 (mask.toNat : Int)] 49)
  have BX := Lib.hid (show BoxAt w.heap.size _ _ _ from hX)
  have H0 := Lib.hid (And.intro hA hB)
  clear hX
  go_enter Try.func20, Try.ntmps20
  go_upto_region 1 with fail
  generalize w.alloc (.cells #[.int .u8 kd, .int .i64 p, .int .i64 n, .slice x m cm, .int .i64 keep, .int .u8 (mask.toNat : Int)] 49) = W at HA HB HW BX ⊢
  have c0 : W.cell? ⟨w.heap.size, 0, none⟩ = some (.int .u8 kd) := BX.out.cell 0
  have c1 : W.cell? ⟨w.heap.size, 1, none⟩ = some (.int .i64 p) := BX.out.cell 1
  have c2 : W.cell? ⟨w.heap.size, 2, none⟩ = some (.int .i64 n) := BX.out.cell 2
  clear hA hB hb0 hs hx h4
  have PA := Read_any W g gb gc cb cc f HA.out p n hp hn
  have PB := fun w' (hbb : Below W.heap.size W w') => refRead_any w' h hb hc db dc f (HB.out.below hbb) p n hp hn
  unfold ReadRet at PA PB
  generalize f.readE p n = er at PA PB
  generalize f.readB p n = bs at PA PB
  have PA := Lib.hid PA
  have PB := Lib.hid PB
  have z1 : (er == er) = true := by simp
  have sW := HW.out.size
  go_wp2_with fail
  with_reducible refine PA.out.mono ?_
  rintro e w1 ⟨a1, m1, k1, rfl, hown, hb1⟩
  have HB1 := Lib.hid hb1
  have HO := Lib.hid hown
  clear PA hown hb1 c0 c1 c2
  have BX1 := BX.out.below HB1.out
  have c1 : w1.cell? ⟨w.heap.size, 1, none⟩ = some (.int .i64 p) := BX1.cell 1
  have c2 : w1.cell? ⟨w.heap.size, 2, none⟩ = some (.int .i64 n) := BX1.cell 2
  have PB1 := Lib.hid (PB.out w1 HB1.out)
  clear BX1 PB
  go_wp2_with fail
  with_reducible refine PB1.out.mono ?_
  rintro e w2 ⟨a2, m2, k2, rfl, hown2, hb2⟩
  have HB2 := Lib.hid (HB1.out.trans (hb2.mono HB1.out.size))
  have cv1 := fun w' (hw : Below w2.heap.size w2 w') => run_conv ((Sl.ofOwnS HO.out).1.below (hb2.trans (hw.mono hb2.size))) k1
  have cv2 := fun w' (hw : Below w2.heap.size w2 w') => run_conv ((Sl.ofOwnS hown2).1.below hw) k2
  have d1 := cv1 w2 (Below.refl _ _)
  have d2 := cv2 w2 (Below.refl _ _)
  have HO2 := Lib.hid (own_below HO.out hb2)
  have hm1 := (Sl.ofOwnS HO.out).2
  have HM1 := Lib.hid (Sl.ofOwnS HO.out).1.1
  clear PB1 hown2 hb2 c1 c2 cv1 cv2 HO
  go_wp2_with fail
  clear d1 d2
  have hm64 : m1 ≤ 9223372036854775807 := by
    rcases HO2.out.2 with ⟨h2, h3⟩ | ⟨g', cap', cur, hv, _, _, h3, h4, _, _⟩
    · cases h2; omega
    · cases hv; unfold maxLen at h4; omega
  go_loopg [74] m1 (fun gn i wr => ∃ j : Nat, j ≤ m1 ∧ gn = m1 - j ∧ i = .int .i64 j ∧ ∃ bs' : List UInt8, Hid (wr.ownsRow W.heap.size 5 1 (.slice a1 m1 k1) m1 (bs'.map encB)) ∧ Hid (Below W.heap.size W wr))
  case atStart => exact ⟨0, by omega, by omega, by go_num, bs, HO2, HB2⟩
  case round =>
    obtain ⟨j, hj, rfl, rfl, bs', HO, HBr⟩ := hrel
    by_cases hlt : j < m1
    · obtain ⟨gx, rfl, hgx, hgl⟩ := own_addr HO.out (by omega)
      have hl := (Sl.ofOwnS HO.out).1.1
      have cx := own_cell HO.out j (by omega)
      have mx := own_melt HO.out j
      obtain ⟨y, hy⟩ : ∃ y, bs'[j]'(by omega) = y := ⟨_, rfl⟩
      rw [hy] at cx
      unfold encB at cx
      have hin := u8_inc y
      have HO3 := Lib.hid (own_set HO.out j (encB (y + 1)))
      rw [← List.map_set] at HO3
      have HB3 := Lib.hid (HBr.out.setCell (p := ⟨gx, j, none⟩) hgx (encB (y + 1)))
      have hyb := u8_lt y
      unfold encB at HB3
      generalize y + 1 = y1 at hin HO3 HB3
      clear hl hy HO2 HB2
      go_wp2_with fail
      go_roundg (m1 - (j + 1))
      case measure => omega
      case rel => exact ⟨j + 1, by omega, rfl, by go_num, _, HO3, HB3⟩
    · obtain rfl : j = m1 := by omega
      go_wp2_with fail
      go_ret
      refine ⟨rfl, ⟨f, H0.out.1.below (HW.out.trans (HBr.out.mono sW)), H0.out.2.below (HW.out.trans (HBr.out.mono sW)), rfl, rfl, rfl⟩, KeptL.ofBelow (HW.out.trans (HBr.out.mono sW))⟩
theorem do_any (w : World) (g gb gc cb cc h hb hc db dc : Nat) (f : Fl) (hA : FlA w g gb gc cb cc f) (hB : FlB w h hb hc db dc f) (ap : Apart6 g gb gc h hb hc) (kd : Nat) (p n : Int) (x : Option Addr) (m cm : Nat) (ds : List UInt8) (keep : Int) (mask : UInt8) (hkd : kd ≤ 255) (hp : IntR p) (hn : IntR n) (hk : IntR keep) (hs : Sl encB w x m ds) (hm : m ≤ cm) (hmm : m ≤ maxLen) (hx : ∀ b ∈ [g, gb, gc, h, hb, hc], NotIn x m b) :
    Calls Try.prog 20 #[.pointer (some ⟨g, 0, none⟩), .pointer (some ⟨h, 0, none⟩), .agg #[.int .u8 kd, .int .i64 p, .int .i64 n, .slice x m cm, .int .i64 keep, .int .u8 (mask.toNat : Int)]] w (DoneRet w g gb gc cb cc h hb hc db dc f) := by
  have h5 : kd % 5 = 0 ∨ kd % 5 = 1 ∨ kd % 5 = 2 ∨ kd % 5 = 3 ∨ kd % 5 = 4 := by omega
  rcases h5 with e | e | e | e | e
  · exact do_program w g gb gc cb cc h hb hc db dc f hA hB ap kd p n x m cm ds keep mask hkd hp hn hk hs hm hmm hx e
  · exact do_erase w g gb gc cb cc h hb hc db dc f hA hB ap kd p n x m cm ds keep mask hkd hp hn hk hs hm hmm hx e
  · exact do_read w g gb gc cb cc h hb hc db dc f hA hB ap kd p n x m cm ds keep mask hkd hp hn hk hs hm hmm hx e
  · exact do_fuse w g gb gc cb cc h hb hc db dc f hA hB ap kd p n x m cm ds keep mask hkd hp hn hk hs hm hmm hx e
  · exact do_reset w g gb gc cb cc h hb hc db dc f hA hB ap kd p n x m cm ds keep mask hkd hp hn hk hs hm hmm hx e
end Go.Proofs.Ytjlcgffcfhfffaa
