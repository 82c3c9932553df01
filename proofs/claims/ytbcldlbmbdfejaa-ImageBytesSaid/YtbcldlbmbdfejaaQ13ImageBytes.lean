/- image: the reader's structs (printed by gen/imgst.py). No condition. -/
import Derived.Test.YtbcldlbmbdfejaaQ12ImageBytes
import Derived.OwnWalk
namespace Go.Proofs.Ytbcldlbmbdfejaa
open Go.ChangeShapes Go.WideShapes Go.ChangeAt Go.RowKit
theorem keep1_setC {g : Nat} {w w1 : World} (k : Keep1 g w w1) {c : Nat} (hc : w.heap.size ≤ c) (o : Nat) (v : Value) : Keep1 g w (w1.setCell ⟨c, o, none⟩ v) :=
  ⟨k.os, k.tape, k.output, by have := k.size; unfold World.setCell; simpa using this, fun i hi hg => by
    rw [← k.block i hi hg]
    unfold World.setCell
    have hne' : ¬ c = i := by omega
    simp [Array.getElem?_modify, hne']⟩
theorem keptT_set {w : World} {c : Nat} {cs : Array Value} {t : TypeId} {fr : Nat × Nat} (h : w.heap[c]? = some (.cells cs t fr)) (o : Nat) (v : Value) : KeptT t w (w.setCell ⟨c, o, none⟩ v) := by
  refine ⟨by unfold World.setCell; simp, fun i cs' t' fr' hi hne => ?_⟩
  have hic : i ≠ c := by
    rintro rfl
    rw [h] at hi
    simp at hi
    exact hne hi.2.1.symm
  unfold World.setCell
  have hne' : ¬ c = i := fun e => hic e.symm
  simp [Array.getElem?_modify, hne', hi]
theorem heap_other {w : World} {g h : Nat} {ob : Obj} (hg : w.heap[g]? = some ob) (hne : g ≠ h) (o : Nat) (v : Value) : (w.setCell ⟨h, o, none⟩ v).heap[g]? = some ob := by
  unfold World.setCell
  have hne' : ¬ h = g := fun e => hne e.symm
  simp [Array.getElem?_modify, hne', hg]
theorem infoTrap : (Try.prog.info? 71).map (·.size) = some 4 := by kernel_rfl
theorem infoMeth : (Try.prog.info? 87).map (·.size) = some 6 := by kernel_rfl
theorem infoClass : (Try.prog.info? 82).map (·.size) = some 5 := by kernel_rfl
theorem infoCode : (Try.prog.info? 62).map (·.size) = some 6 := by kernel_rfl
set_option maxRecDepth 100000 in
set_option maxHeartbeats 16000000 in
theorem rtrap_any (w : World) (g : Nat) (a : Option Addr) (n cap : Nat) (bs : List UInt8) (s0 : St) (h : RdS w g a n cap bs s0) :
    Calls Try.prog 71 #[.pointer (some ⟨g, 0, none⟩)] w fun e w' => ∃ x : TW, e = .returned (.agg x.vals.toArray) ∧ x = (trapS bs s0).1 ∧ RdS w' g a n cap bs (trapS bs s0).2 ∧ Keep1 g w w' := by
  have HS0 := Lib.hid h.sl
  have HGL := Lib.hid h.lt
  have hal : Below w.heap.size w (w.alloc (.cells #[.int .i64 0, .int .i64 0, .int .i64 0, .int .i64 0] 71)) := (Below.refl _ _).alloc (Nat.le_refl _) _
  have HZ0 := Lib.hid (heap_alloc_last w (.cells #[.int .i64 0, .int .i64 0, .int .i64 0, .int .i64 0] 71))
  have HK0 := Lib.hid (Keep1.of (g := g) hal)
  have HR0 := Lib.hid (h.below hal)
  have hzg : w.heap.size ≠ g := by have := h.lt; omega
  clear hal h
  go_enter Try.func71, Try.ntmps71
  go_upto_region 1 with fail
  generalize w.alloc (.cells #[.int .i64 0, .int .i64 0, .int .i64 0, .int .i64 0] 71) = W0 at *
  obtain ⟨x1, s1, hE⟩ : ∃ x t, getS bs 2 s0 = (x, t) := ⟨_, _, rfl⟩
  have HP := Lib.hid (two_any W0 g a n cap bs s0 HR0.out)
  have HV1 := Lib.hid (getS_two bs 2 (by omega) s0)
  rw [hE] at HP HV1
  simp only at HP HV1
  have HE1 := Lib.hid hE
  clear hE
  go_wp2_with fail
  refine HP.out.mono ?_
  rintro e' W1 ⟨rfl, hr, hk⟩
  have HR1 := Lib.hid hr
  clear hr HP
  have HK1 := Lib.hid (HK0.out.trans hk)
  have HZ1 := Lib.hid (hk.blk HZ0.out hzg)
  clear hk HK0 HZ0 HR0
  go_upto_region 2 with fail
  have hal : Below W1.heap.size W1 (W1.alloc (.cells #[.int .i64 x1, .int .i64 0, .int .i64 0, .int .i64 0] 71)) := (Below.refl _ _).alloc (Nat.le_refl _) _
  have HC2 := Lib.hid (heap_alloc_last W1 (.cells #[.int .i64 x1, .int .i64 0, .int .i64 0, .int .i64 0] 71))
  have HZ2 := Lib.hid (row_below HZ1.out hal)
  have HK2 := Lib.hid (HK1.out.trans (Keep1.of hal))
  have HR2 := Lib.hid (HR1.out.below hal)
  have hcB : w.heap.size ≤ W1.heap.size := HK1.out.size
  have hzc : w.heap.size ≠ W1.heap.size := Nat.ne_of_lt (row_lt HZ1.out)
  have hcg : W1.heap.size ≠ g := Ne.symm (Nat.ne_of_lt HR1.out.lt)
  clear hal HZ1 HK1 HR1
  generalize (W1.alloc (.cells #[.int .i64 x1, .int .i64 0, .int .i64 0, .int .i64 0] 71)) = W2 at *
  generalize W1.heap.size = gc at *
  obtain ⟨x2, s2, hE⟩ : ∃ x t, getS bs 2 s1 = (x, t) := ⟨_, _, rfl⟩
  have HP := Lib.hid (two_any W2 g a n cap bs s1 HR2.out)
  have HV2 := Lib.hid (getS_two bs 2 (by omega) s1)
  rw [hE] at HP HV2
  simp only at HP HV2
  have HE2 := Lib.hid hE
  clear hE
  go_wp2_with fail
  refine HP.out.mono ?_
  rintro e' W3 ⟨rfl, hr, hk⟩
  have HR3 := Lib.hid hr
  clear hr HP
  have HK3 := Lib.hid (HK2.out.trans hk)
  have HZ3 := Lib.hid (hk.blk HZ2.out hzg)
  have HC3 := Lib.hid (hk.blk HC2.out hcg)
  clear hk HK2 HZ2 HR2 HC2
  have hkt := keptT_set HC3.out 1 (.int .i64 x2)
  have HC4 := Lib.hid (show (W3.setCell ⟨gc, 1, none⟩ (.int .i64 x2)).heap[gc]? = some (.cells #[.int .i64 x1, .int .i64 x2, .int .i64 0, .int .i64 0] 71) from heap_set3 HC3.out 1 _)
  have HZ4 := Lib.hid (heap_other HZ3.out hzc 1 (.int .i64 x2))
  have HK4 := Lib.hid (keep1_setC HK3.out hcB 1 (.int .i64 x2))
  have HR4 := Lib.hid (HR3.out.keptT hkt (by decide) HS0.out HK4.out)
  have fr := row_melt HC3.out 1
  have lt := row_lt HC3.out
  have c0 := row_cell HC3.out 1 rfl
  go_upto_region 3 with fail
  clear hkt fr lt c0 HC3 HZ3 HK3 HR3
  generalize (W3.setCell ⟨gc, 1, none⟩ (.int .i64 x2)) = W4 at *
  obtain ⟨x3, s3, hE⟩ : ∃ x t, getS bs 2 s2 = (x, t) := ⟨_, _, rfl⟩
  have HP := Lib.hid (two_any W4 g a n cap bs s2 HR4.out)
  have HV3 := Lib.hid (getS_two bs 2 (by omega) s2)
  rw [hE] at HP HV3
  simp only at HP HV3
  have HE3 := Lib.hid hE
  clear hE
  go_wp2_with fail
  refine HP.out.mono ?_
  rintro e' W5 ⟨rfl, hr, hk⟩
  have HR5 := Lib.hid hr
  clear hr HP
  have HK5 := Lib.hid (HK4.out.trans hk)
  have HZ5 := Lib.hid (hk.blk HZ4.out hzg)
  have HC5 := Lib.hid (hk.blk HC4.out hcg)
  clear hk HK4 HZ4 HR4 HC4
  have hkt := keptT_set HC5.out 2 (.int .i64 x3)
  have HC6 := Lib.hid (show (W5.setCell ⟨gc, 2, none⟩ (.int .i64 x3)).heap[gc]? = some (.cells #[.int .i64 x1, .int .i64 x2, .int .i64 x3, .int .i64 0] 71) from heap_set3 HC5.out 2 _)
  have HZ6 := Lib.hid (heap_other HZ5.out hzc 2 (.int .i64 x3))
  have HK6 := Lib.hid (keep1_setC HK5.out hcB 2 (.int .i64 x3))
  have HR6 := Lib.hid (HR5.out.keptT hkt (by decide) HS0.out HK6.out)
  have fr := row_melt HC5.out 2
  have lt := row_lt HC5.out
  have c0 := row_cell HC5.out 2 rfl
  go_upto_region 4 with fail
  clear hkt fr lt c0 HC5 HZ5 HK5 HR5
  generalize (W5.setCell ⟨gc, 2, none⟩ (.int .i64 x3)) = W6 at *
  obtain ⟨x4, s4, hE⟩ : ∃ x t, lessS bs s3 = (x, t) := ⟨_, _, rfl⟩
  have HP := Lib.hid (less_any W6 g a n cap bs s3 HR6.out)
  have HV4 := Lib.hid (trivial)
  rw [hE] at HP
  simp only at HP
  have HE4 := Lib.hid hE
  clear hE
  go_wp2_with fail
  refine HP.out.mono ?_
  rintro e' W7 ⟨rfl, hr, hk⟩
  have HR7 := Lib.hid hr
  clear hr HP
  have HK7 := Lib.hid (HK6.out.trans hk)
  have HZ7 := Lib.hid (hk.blk HZ6.out hzg)
  have HC7 := Lib.hid (hk.blk HC6.out hcg)
  clear hk HK6 HZ6 HR6 HC6
  have hkt := keptT_set HC7.out 3 (.int .i64 x4)
  have HC8 := Lib.hid (show (W7.setCell ⟨gc, 3, none⟩ (.int .i64 x4)).heap[gc]? = some (.cells #[.int .i64 x1, .int .i64 x2, .int .i64 x3, .int .i64 x4] 71) from heap_set3 HC7.out 3 _)
  have HZ8 := Lib.hid (heap_other HZ7.out hzc 3 (.int .i64 x4))
  have HK8 := Lib.hid (keep1_setC HK7.out hcB 3 (.int .i64 x4))
  have HR8 := Lib.hid (HR7.out.keptT hkt (by decide) HS0.out HK8.out)
  have fr := row_melt HC7.out 3
  have lt := row_lt HC7.out
  have c0 := row_cell HC7.out 3 rfl
  go_upto_region 5 with fail
  clear hkt fr lt c0 HC7 HZ7 HK7 HR7
  generalize (W7.setCell ⟨gc, 3, none⟩ (.int .i64 x4)) = W8 at *
  have cy0 := row_cell HC8.out 0 rfl
  have z0 := row_cell HZ8.out 0 rfl
  have fz0 := row_melt HZ8.out 0
  have cy1 := row_cell HC8.out 1 rfl
  have z1 := row_cell HZ8.out 1 rfl
  have fz1 := row_melt HZ8.out 1
  have cy2 := row_cell HC8.out 2 rfl
  have z2 := row_cell HZ8.out 2 rfl
  have fz2 := row_melt HZ8.out 2
  have cy3 := row_cell HC8.out 3 rfl
  have z3 := row_cell HZ8.out 3 rfl
  have fz3 := row_melt HZ8.out 3
  have ltz := row_lt HZ8.out
  go_wp2_with fail
  have HZF : ((((W8.setCell ⟨w.heap.size, 0, none⟩ (.int .i64 x1)).setCell ⟨w.heap.size, 1, none⟩ (.int .i64 x2)).setCell ⟨w.heap.size, 2, none⟩ (.int .i64 x3)).setCell ⟨w.heap.size, 3, none⟩ (.int .i64 x4)).heap[w.heap.size]? = some (.cells #[.int .i64 x1, .int .i64 x2, .int .i64 x3, .int .i64 x4] 71) := (heap_set3 (heap_set3 (heap_set3 (heap_set3 HZ8.out 0 _) 1 _) 2 _) 3 _)
  have HKF : Keep1 g w ((((W8.setCell ⟨w.heap.size, 0, none⟩ (.int .i64 x1)).setCell ⟨w.heap.size, 1, none⟩ (.int .i64 x2)).setCell ⟨w.heap.size, 2, none⟩ (.int .i64 x3)).setCell ⟨w.heap.size, 3, none⟩ (.int .i64 x4)) := (keep1_setC (keep1_setC (keep1_setC (keep1_setC HK8.out (Nat.le_refl _) 0 _) (Nat.le_refl _) 1 _) (Nat.le_refl _) 2 _) (Nat.le_refl _) 3 _)
  have hk0 : KeptT 71 W8 ((((W8.setCell ⟨w.heap.size, 0, none⟩ (.int .i64 x1)).setCell ⟨w.heap.size, 1, none⟩ (.int .i64 x2)).setCell ⟨w.heap.size, 2, none⟩ (.int .i64 x3)).setCell ⟨w.heap.size, 3, none⟩ (.int .i64 x4)) := (KeptT.trans ((KeptT.trans ((KeptT.trans ((KeptT.trans (KeptT.refl _) (keptT_set HZ8.out 0 _))) (keptT_set (heap_set3 HZ8.out 0 _) 1 _))) (keptT_set (heap_set3 (heap_set3 HZ8.out 0 _) 1 _) 2 _))) (keptT_set (heap_set3 (heap_set3 (heap_set3 HZ8.out 0 _) 1 _) 2 _) 3 _))
  have SEQ := Lib.hid (show trapS bs s0 = (⟨x1, x2, x3, x4⟩, s4) by simp only [trapS, bindR, pureR, manyS, Int.toNat_natCast, HE1.out, HE2.out, HE3.out, HE4.out])
  refine bodyPost_ret (results_cell_row rfl _ _ w.heap.size _ _ _ _ rfl HZF Try.underlying71 rfl infoTrap) rfl ⟨⟨x1, x2, x3, x4⟩, rfl, by rw [SEQ.out], HR8.out.keptT hk0 (by decide) HS0.out HKF |> (fun hh => by rw [SEQ.out]; exact hh), HKF⟩
set_option maxRecDepth 100000 in
set_option maxHeartbeats 16000000 in
theorem rclass_any (w : World) (g : Nat) (a : Option Addr) (n cap : Nat) (bs : List UInt8) (s0 : St) (h : RdS w g a n cap bs s0) :
    Calls Try.prog 30 #[.pointer (some ⟨g, 0, none⟩)] w fun e w' => ∃ x : CW, e = .returned (.agg x.vals.toArray) ∧ x.p = (classS bs s0).1 ∧ x.Own w' w.heap.size ∧ RdS w' g a n cap bs (classS bs s0).2 ∧ Keep1 g w w' := by
  have HS0 := Lib.hid h.sl
  have HGL := Lib.hid h.lt
  have hal : Below w.heap.size w (w.alloc (.cells #[.string ⟨#[]⟩, .int .i64 0, .int .i64 0, .slice none 0 0, .slice none 0 0] 82)) := (Below.refl _ _).alloc (Nat.le_refl _) _
  have HZ0 := Lib.hid (heap_alloc_last w (.cells #[.string ⟨#[]⟩, .int .i64 0, .int .i64 0, .slice none 0 0, .slice none 0 0] 82))
  have HK0 := Lib.hid (Keep1.of (g := g) hal)
  have HR0 := Lib.hid (h.below hal)
  have hzg : w.heap.size ≠ g := by have := h.lt; omega
  clear hal h
  go_enter Try.func30, Try.ntmps30
  go_upto_region 1 with fail
  generalize w.alloc (.cells #[.string ⟨#[]⟩, .int .i64 0, .int .i64 0, .slice none 0 0, .slice none 0 0] 82) = W0 at *
  obtain ⟨x1, s1, hE⟩ : ∃ x t, textS bs 1 s0 = (x, t) := ⟨_, _, rfl⟩
  have HP := Lib.hid (name_any W0 g a n cap bs s0 HR0.out)
  have HV1 := Lib.hid (trivial)
  rw [hE] at HP
  unfold encS at HP
  simp only at HP
  have HE1 := Lib.hid hE
  clear hE
  go_wp2_with fail
  refine HP.out.mono ?_
  rintro e' W1 ⟨rfl, hr, hk⟩
  have HR1 := Lib.hid hr
  clear hr HP
  have HK1 := Lib.hid (HK0.out.trans hk)
  have HZ1 := Lib.hid (hk.blk HZ0.out hzg)
  clear hk HK0 HZ0 HR0
  go_upto_region 2 with fail
  have hal : Below W1.heap.size W1 (W1.alloc (.cells #[.string ⟨x1.toArray⟩, .int .i64 0, .int .i64 0, .slice none 0 0, .slice none 0 0] 82)) := (Below.refl _ _).alloc (Nat.le_refl _) _
  have HC2 := Lib.hid (heap_alloc_last W1 (.cells #[.string ⟨x1.toArray⟩, .int .i64 0, .int .i64 0, .slice none 0 0, .slice none 0 0] 82))
  have HZ2 := Lib.hid (row_below HZ1.out hal)
  have HK2 := Lib.hid (HK1.out.trans (Keep1.of hal))
  have HR2 := Lib.hid (HR1.out.below hal)
  have hcB : w.heap.size ≤ W1.heap.size := HK1.out.size
  have hzc : w.heap.size ≠ W1.heap.size := Nat.ne_of_lt (row_lt HZ1.out)
  have hcg : W1.heap.size ≠ g := Ne.symm (Nat.ne_of_lt HR1.out.lt)
  clear hal HZ1 HK1 HR1
  generalize (W1.alloc (.cells #[.string ⟨x1.toArray⟩, .int .i64 0, .int .i64 0, .slice none 0 0, .slice none 0 0] 82)) = W2 at *
  generalize W1.heap.size = gc at *
  obtain ⟨x2, s2, hE⟩ : ∃ x t, lessS bs s1 = (x, t) := ⟨_, _, rfl⟩
  have HP := Lib.hid (less_any W2 g a n cap bs s1 HR2.out)
  have HV2 := Lib.hid (trivial)
  rw [hE] at HP
  simp only at HP
  have HE2 := Lib.hid hE
  clear hE
  go_wp2_with fail
  refine HP.out.mono ?_
  rintro e' W3 ⟨rfl, hr, hk⟩
  have HR3 := Lib.hid hr
  clear hr HP
  have HK3 := Lib.hid (HK2.out.trans hk)
  have HZ3 := Lib.hid (hk.blk HZ2.out hzg)
  have HC3 := Lib.hid (hk.blk HC2.out hcg)
  clear hk HK2 HZ2 HR2 HC2
  have hkt := keptT_set HC3.out 1 (.int .i64 x2)
  have HC4 := Lib.hid (show (W3.setCell ⟨gc, 1, none⟩ (.int .i64 x2)).heap[gc]? = some (.cells #[.string ⟨x1.toArray⟩, .int .i64 x2, .int .i64 0, .slice none 0 0, .slice none 0 0] 82) from heap_set3 HC3.out 1 _)
  have HZ4 := Lib.hid (heap_other HZ3.out hzc 1 (.int .i64 x2))
  have HK4 := Lib.hid (keep1_setC HK3.out hcB 1 (.int .i64 x2))
  have HR4 := Lib.hid (HR3.out.keptT hkt (by decide) HS0.out HK4.out)
  have fr := row_melt HC3.out 1
  have lt := row_lt HC3.out
  have c0 := row_cell HC3.out 1 rfl
  go_upto_region 3 with fail
  clear hkt fr lt c0 HC3 HZ3 HK3 HR3
  generalize (W3.setCell ⟨gc, 1, none⟩ (.int .i64 x2)) = W4 at *
  obtain ⟨x3, s3, hE⟩ : ∃ x t, getS bs 2 s2 = (x, t) := ⟨_, _, rfl⟩
  have HP := Lib.hid (two_any W4 g a n cap bs s2 HR4.out)
  have HV3 := Lib.hid (getS_two bs 2 (by omega) s2)
  rw [hE] at HP HV3
  simp only at HP HV3
  have HE3 := Lib.hid hE
  clear hE
  go_wp2_with fail
  refine HP.out.mono ?_
  rintro e' W5 ⟨rfl, hr, hk⟩
  have HR5 := Lib.hid hr
  clear hr HP
  have HK5 := Lib.hid (HK4.out.trans hk)
  have HZ5 := Lib.hid (hk.blk HZ4.out hzg)
  have HC5 := Lib.hid (hk.blk HC4.out hcg)
  clear hk HK4 HZ4 HR4 HC4
  have hkt := keptT_set HC5.out 2 (.int .i64 x3)
  have HC6 := Lib.hid (show (W5.setCell ⟨gc, 2, none⟩ (.int .i64 x3)).heap[gc]? = some (.cells #[.string ⟨x1.toArray⟩, .int .i64 x2, .int .i64 x3, .slice none 0 0, .slice none 0 0] 82) from heap_set3 HC5.out 2 _)
  have HZ6 := Lib.hid (heap_other HZ5.out hzc 2 (.int .i64 x3))
  have HK6 := Lib.hid (keep1_setC HK5.out hcB 2 (.int .i64 x3))
  have HR6 := Lib.hid (HR5.out.keptT hkt (by decide) HS0.out HK6.out)
  have fr := row_melt HC5.out 2
  have lt := row_lt HC5.out
  have c0 := row_cell HC5.out 2 rfl
  go_upto_region 4 with fail
  clear hkt fr lt c0 HC5 HZ5 HK5 HR5
  generalize (W5.setCell ⟨gc, 2, none⟩ (.int .i64 x3)) = W6 at *
  obtain ⟨x4, s4, hE⟩ : ∃ x t, getS bs 2 s3 = (x, t) := ⟨_, _, rfl⟩
  have HP := Lib.hid (two_any W6 g a n cap bs s3 HR6.out)
  have HV4 := Lib.hid (getS_two bs 2 (by omega) s3)
  rw [hE] at HP HV4
  simp only at HP HV4
  have HE4 := Lib.hid hE
  clear hE
  go_wp2_with fail
  refine HP.out.mono ?_
  rintro e' W7 ⟨rfl, hr, hk⟩
  have HR7 := Lib.hid hr
  clear hr HP
  have HK7 := Lib.hid (HK6.out.trans hk)
  have HZ7 := Lib.hid (hk.blk HZ6.out hzg)
  have HC7 := Lib.hid (hk.blk HC6.out hcg)
  clear hk HK6 HZ6 HR6 HC6
  obtain ⟨N4, hN, hNl⟩ : ∃ N : Nat, x4 = (N : Int) ∧ N ≤ 65535 := by have := HV4.out; exact ⟨x4.toNat, by omega, by omega⟩
  subst hN
  obtain ⟨x5, s5, hE⟩ : ∃ x t, rowS (getS bs 2) N4 s4 = (x, t) := ⟨_, _, rfl⟩
  have HP := Lib.hid (rrow_int W7 g a n cap bs s4 HR7.out N4 hNl (getS bs 2) (fun W s' hr _ => (two_any W g a n cap bs s' hr).mono fun e w' h => ⟨_, h.1, rfl, h.2.1, h.2.2⟩))
  rw [hE] at HP
  have HE5 := Lib.hid hE
  clear hE hNl
  go_wp2_with fail
  refine HP.out.mono ?_
  rintro e' W8 ⟨v5, L5, rfl, ho, hx, hr, hk⟩
  simp only at hx
  subst hx
  obtain ⟨ra5, rc5, rfl, _, _⟩ := Sl.ofOwn ho
  have HO5_8 := Lib.hid (own_mono ho HK7.out.size)
  have HR8 := Lib.hid hr
  clear hr HP ho
  have HK8 := Lib.hid (HK7.out.trans hk)
  have HZ8 := Lib.hid (hk.blk HZ7.out hzg)
  have HC8 := Lib.hid (hk.blk HC7.out hcg)
  clear hk HK7 HZ7 HR7 HC7
  have hkt := keptT_set HC8.out 3 (.slice ra5 L5.length rc5)
  have HC9 := Lib.hid (show (W8.setCell ⟨gc, 3, none⟩ (.slice ra5 L5.length rc5)).heap[gc]? = some (.cells #[.string ⟨x1.toArray⟩, .int .i64 x2, .int .i64 x3, .slice ra5 L5.length rc5, .slice none 0 0] 82) from heap_set3 HC8.out 3 _)
  have HZ9 := Lib.hid (heap_other HZ8.out hzc 3 (.slice ra5 L5.length rc5))
  have HK9 := Lib.hid (keep1_setC HK8.out hcB 3 (.slice ra5 L5.length rc5))
  have HR9 := Lib.hid (HR8.out.keptT hkt (by decide) HS0.out HK9.out)
  have HO5_9 := Lib.hid (own_keptT HO5_8.out hkt (by decide))
  have fr := row_melt HC8.out 3
  have lt := row_lt HC8.out
  have c0 := row_cell HC8.out 3 rfl
  go_upto_region 5 with fail
  clear hkt fr lt c0 HC8 HZ8 HK8 HR8 HO5_8
  generalize (W8.setCell ⟨gc, 3, none⟩ (.slice ra5 L5.length rc5)) = W9 at *
  obtain ⟨x6, s6, hE⟩ : ∃ x t, getS bs 2 s5 = (x, t) := ⟨_, _, rfl⟩
  have HP := Lib.hid (two_any W9 g a n cap bs s5 HR9.out)
  have HV6 := Lib.hid (getS_two bs 2 (by omega) s5)
  rw [hE] at HP HV6
  simp only at HP HV6
  have HE6 := Lib.hid hE
  clear hE
  go_wp2_with fail
  refine HP.out.mono ?_
  rintro e' W10 ⟨rfl, hr, hk⟩
  have HR10 := Lib.hid hr
  clear hr HP
  have HK10 := Lib.hid (HK9.out.trans hk)
  have HZ10 := Lib.hid (hk.blk HZ9.out hzg)
  have HC10 := Lib.hid (hk.blk HC9.out hcg)
  have HO5_10 := Lib.hid (own_keep1 HO5_9.out hk HGL.out)
  clear hk HK9 HZ9 HR9 HC9 HO5_9
  obtain ⟨N6, hN, hNl⟩ : ∃ N : Nat, x6 = (N : Int) ∧ N ≤ 65535 := by have := HV6.out; exact ⟨x6.toNat, by omega, by omega⟩
  subst hN
  obtain ⟨x7, s7, hE⟩ : ∃ x t, rowS (getS bs 2) N6 s6 = (x, t) := ⟨_, _, rfl⟩
  have HP := Lib.hid (rrow_int W10 g a n cap bs s6 HR10.out N6 hNl (getS bs 2) (fun W s' hr _ => (two_any W g a n cap bs s' hr).mono fun e w' h => ⟨_, h.1, rfl, h.2.1, h.2.2⟩))
  rw [hE] at HP
  have HE7 := Lib.hid hE
  clear hE hNl
  go_wp2_with fail
  refine HP.out.mono ?_
  rintro e' W11 ⟨v7, L7, rfl, ho, hx, hr, hk⟩
  simp only at hx
  subst hx
  obtain ⟨ra7, rc7, rfl, _, _⟩ := Sl.ofOwn ho
  have HO7_11 := Lib.hid (own_mono ho HK10.out.size)
  have HR11 := Lib.hid hr
  clear hr HP ho
  have HK11 := Lib.hid (HK10.out.trans hk)
  have HZ11 := Lib.hid (hk.blk HZ10.out hzg)
  have HC11 := Lib.hid (hk.blk HC10.out hcg)
  have HO5_11 := Lib.hid (own_keep1 HO5_10.out hk HGL.out)
  clear hk HK10 HZ10 HR10 HC10 HO5_10
  have hkt := keptT_set HC11.out 4 (.slice ra7 L7.length rc7)
  have HC12 := Lib.hid (show (W11.setCell ⟨gc, 4, none⟩ (.slice ra7 L7.length rc7)).heap[gc]? = some (.cells #[.string ⟨x1.toArray⟩, .int .i64 x2, .int .i64 x3, .slice ra5 L5.length rc5, .slice ra7 L7.length rc7] 82) from heap_set3 HC11.out 4 _)
  have HZ12 := Lib.hid (heap_other HZ11.out hzc 4 (.slice ra7 L7.length rc7))
  have HK12 := Lib.hid (keep1_setC HK11.out hcB 4 (.slice ra7 L7.length rc7))
  have HR12 := Lib.hid (HR11.out.keptT hkt (by decide) HS0.out HK12.out)
  have HO5_12 := Lib.hid (own_keptT HO5_11.out hkt (by decide))
  have HO7_12 := Lib.hid (own_keptT HO7_11.out hkt (by decide))
  have fr := row_melt HC11.out 4
  have lt := row_lt HC11.out
  have c0 := row_cell HC11.out 4 rfl
  go_upto_region 6 with fail
  clear hkt fr lt c0 HC11 HZ11 HK11 HR11 HO5_11 HO7_11
  generalize (W11.setCell ⟨gc, 4, none⟩ (.slice ra7 L7.length rc7)) = W12 at *
  have cy0 := row_cell HC12.out 0 rfl
  have z0 := row_cell HZ12.out 0 rfl
  have fz0 := row_melt HZ12.out 0
  have cy1 := row_cell HC12.out 1 rfl
  have z1 := row_cell HZ12.out 1 rfl
  have fz1 := row_melt HZ12.out 1
  have cy2 := row_cell HC12.out 2 rfl
  have z2 := row_cell HZ12.out 2 rfl
  have fz2 := row_melt HZ12.out 2
  have cy3 := row_cell HC12.out 3 rfl
  have z3 := row_cell HZ12.out 3 rfl
  have fz3 := row_melt HZ12.out 3
  have cy4 := row_cell HC12.out 4 rfl
  have z4 := row_cell HZ12.out 4 rfl
  have fz4 := row_melt HZ12.out 4
  have ltz := row_lt HZ12.out
  go_wp2_with fail
  have HZF : (((((W12.setCell ⟨w.heap.size, 0, none⟩ (.string ⟨x1.toArray⟩)).setCell ⟨w.heap.size, 1, none⟩ (.int .i64 x2)).setCell ⟨w.heap.size, 2, none⟩ (.int .i64 x3)).setCell ⟨w.heap.size, 3, none⟩ (.slice ra5 L5.length rc5)).setCell ⟨w.heap.size, 4, none⟩ (.slice ra7 L7.length rc7)).heap[w.heap.size]? = some (.cells #[.string ⟨x1.toArray⟩, .int .i64 x2, .int .i64 x3, .slice ra5 L5.length rc5, .slice ra7 L7.length rc7] 82) := (heap_set3 (heap_set3 (heap_set3 (heap_set3 (heap_set3 HZ12.out 0 _) 1 _) 2 _) 3 _) 4 _)
  have HKF : Keep1 g w (((((W12.setCell ⟨w.heap.size, 0, none⟩ (.string ⟨x1.toArray⟩)).setCell ⟨w.heap.size, 1, none⟩ (.int .i64 x2)).setCell ⟨w.heap.size, 2, none⟩ (.int .i64 x3)).setCell ⟨w.heap.size, 3, none⟩ (.slice ra5 L5.length rc5)).setCell ⟨w.heap.size, 4, none⟩ (.slice ra7 L7.length rc7)) := (keep1_setC (keep1_setC (keep1_setC (keep1_setC (keep1_setC HK12.out (Nat.le_refl _) 0 _) (Nat.le_refl _) 1 _) (Nat.le_refl _) 2 _) (Nat.le_refl _) 3 _) (Nat.le_refl _) 4 _)
  have hk0 : KeptT 82 W12 (((((W12.setCell ⟨w.heap.size, 0, none⟩ (.string ⟨x1.toArray⟩)).setCell ⟨w.heap.size, 1, none⟩ (.int .i64 x2)).setCell ⟨w.heap.size, 2, none⟩ (.int .i64 x3)).setCell ⟨w.heap.size, 3, none⟩ (.slice ra5 L5.length rc5)).setCell ⟨w.heap.size, 4, none⟩ (.slice ra7 L7.length rc7)) := (KeptT.trans ((KeptT.trans ((KeptT.trans ((KeptT.trans ((KeptT.trans (KeptT.refl _) (keptT_set HZ12.out 0 _))) (keptT_set (heap_set3 HZ12.out 0 _) 1 _))) (keptT_set (heap_set3 (heap_set3 HZ12.out 0 _) 1 _) 2 _))) (keptT_set (heap_set3 (heap_set3 (heap_set3 HZ12.out 0 _) 1 _) 2 _) 3 _))) (keptT_set (heap_set3 (heap_set3 (heap_set3 (heap_set3 HZ12.out 0 _) 1 _) 2 _) 3 _) 4 _))
  have SEQ := Lib.hid (show classS bs s0 = (⟨x1, x2, x3, L5, L7⟩, s7) by simp only [classS, bindR, pureR, manyS, Int.toNat_natCast, HE1.out, HE2.out, HE3.out, HE4.out, HE5.out, HE6.out, HE7.out])
  refine bodyPost_ret (results_cell_row rfl _ _ w.heap.size _ _ _ _ rfl HZF Try.underlying82 rfl infoClass) rfl ⟨⟨x1, x2, x3, ra5, L5.length, rc5, L5, ra7, L7.length, rc7, L7⟩, rfl, by rw [SEQ.out]; rfl, ⟨own_keptT HO5_12.out hk0 (by decide), own_keptT HO7_12.out hk0 (by decide)⟩, HR12.out.keptT hk0 (by decide) HS0.out HKF |> (fun hh => by rw [SEQ.out]; exact hh), HKF⟩
set_option maxRecDepth 100000 in
set_option maxHeartbeats 16000000 in
theorem rcode_any (w : World) (g : Nat) (a : Option Addr) (n cap : Nat) (bs : List UInt8) (s0 : St) (h : RdS w g a n cap bs s0) :
    Calls Try.prog 38 #[.pointer (some ⟨g, 0, none⟩)] w fun e w' => ∃ x : KW, e = .returned (.agg x.vals.toArray) ∧ x.p = (codeS bs s0).1 ∧ x.Own w' w.heap.size ∧ RdS w' g a n cap bs (codeS bs s0).2 ∧ Keep1 g w w' := by
  have HS0 := Lib.hid h.sl
  have HGL := Lib.hid h.lt
  have hal : Below w.heap.size w (w.alloc (.cells #[.int .i64 0, .int .i64 0, .int .i64 0, .int .i64 0, .int .i64 0, .slice none 0 0] 62)) := (Below.refl _ _).alloc (Nat.le_refl _) _
  have HZ0 := Lib.hid (heap_alloc_last w (.cells #[.int .i64 0, .int .i64 0, .int .i64 0, .int .i64 0, .int .i64 0, .slice none 0 0] 62))
  have HK0 := Lib.hid (Keep1.of (g := g) hal)
  have HR0 := Lib.hid (h.below hal)
  have hzg : w.heap.size ≠ g := by have := h.lt; omega
  clear hal h
  go_enter Try.func38, Try.ntmps38
  go_upto_region 1 with fail
  generalize w.alloc (.cells #[.int .i64 0, .int .i64 0, .int .i64 0, .int .i64 0, .int .i64 0, .slice none 0 0] 62) = W0 at *
  obtain ⟨x1, s1, hE⟩ : ∃ x t, getS bs 4 s0 = (x, t) := ⟨_, _, rfl⟩
  have HP := Lib.hid (get_any W0 g a n cap bs s0 HR0.out 4 (by omega) (by omega))
  have HV1 := Lib.hid (getS_val bs 4 (by omega) s0)
  rw [hE] at HP HV1
  simp only at HP HV1
  have HE1 := Lib.hid hE
  clear hE
  go_wp2_with fail
  refine HP.out.mono ?_
  rintro e' W1 ⟨rfl, hr, hk⟩
  have HR1 := Lib.hid hr
  clear hr HP
  have HK1 := Lib.hid (HK0.out.trans hk)
  have HZ1 := Lib.hid (hk.blk HZ0.out hzg)
  clear hk HK0 HZ0 HR0
  go_upto_region 2 with fail
  have hal : Below W1.heap.size W1 (W1.alloc (.cells #[.int .i64 x1, .int .i64 0, .int .i64 0, .int .i64 0, .int .i64 0, .slice none 0 0] 62)) := (Below.refl _ _).alloc (Nat.le_refl _) _
  have HC2 := Lib.hid (heap_alloc_last W1 (.cells #[.int .i64 x1, .int .i64 0, .int .i64 0, .int .i64 0, .int .i64 0, .slice none 0 0] 62))
  have HZ2 := Lib.hid (row_below HZ1.out hal)
  have HK2 := Lib.hid (HK1.out.trans (Keep1.of hal))
  have HR2 := Lib.hid (HR1.out.below hal)
  have hcB : w.heap.size ≤ W1.heap.size := HK1.out.size
  have hzc : w.heap.size ≠ W1.heap.size := Nat.ne_of_lt (row_lt HZ1.out)
  have hcg : W1.heap.size ≠ g := Ne.symm (Nat.ne_of_lt HR1.out.lt)
  clear hal HZ1 HK1 HR1
  generalize (W1.alloc (.cells #[.int .i64 x1, .int .i64 0, .int .i64 0, .int .i64 0, .int .i64 0, .slice none 0 0] 62)) = W2 at *
  generalize W1.heap.size = gc at *
  obtain ⟨x2, s2, hE⟩ : ∃ x t, getS bs 2 s1 = (x, t) := ⟨_, _, rfl⟩
  have HP := Lib.hid (two_any W2 g a n cap bs s1 HR2.out)
  have HV2 := Lib.hid (getS_two bs 2 (by omega) s1)
  rw [hE] at HP HV2
  simp only at HP HV2
  have HE2 := Lib.hid hE
  clear hE
  go_wp2_with fail
  refine HP.out.mono ?_
  rintro e' W3 ⟨rfl, hr, hk⟩
  have HR3 := Lib.hid hr
  clear hr HP
  have HK3 := Lib.hid (HK2.out.trans hk)
  have HZ3 := Lib.hid (hk.blk HZ2.out hzg)
  have HC3 := Lib.hid (hk.blk HC2.out hcg)
  clear hk HK2 HZ2 HR2 HC2
  have hkt := keptT_set HC3.out 1 (.int .i64 x2)
  have HC4 := Lib.hid (show (W3.setCell ⟨gc, 1, none⟩ (.int .i64 x2)).heap[gc]? = some (.cells #[.int .i64 x1, .int .i64 x2, .int .i64 0, .int .i64 0, .int .i64 0, .slice none 0 0] 62) from heap_set3 HC3.out 1 _)
  have HZ4 := Lib.hid (heap_other HZ3.out hzc 1 (.int .i64 x2))
  have HK4 := Lib.hid (keep1_setC HK3.out hcB 1 (.int .i64 x2))
  have HR4 := Lib.hid (HR3.out.keptT hkt (by decide) HS0.out HK4.out)
  have fr := row_melt HC3.out 1
  have lt := row_lt HC3.out
  have c0 := row_cell HC3.out 1 rfl
  go_upto_region 3 with fail
  clear hkt fr lt c0 HC3 HZ3 HK3 HR3
  generalize (W3.setCell ⟨gc, 1, none⟩ (.int .i64 x2)) = W4 at *
  obtain ⟨x3, s3, hE⟩ : ∃ x t, getS bs 2 s2 = (x, t) := ⟨_, _, rfl⟩
  have HP := Lib.hid (two_any W4 g a n cap bs s2 HR4.out)
  have HV3 := Lib.hid (getS_two bs 2 (by omega) s2)
  rw [hE] at HP HV3
  simp only at HP HV3
  have HE3 := Lib.hid hE
  clear hE
  go_wp2_with fail
  refine HP.out.mono ?_
  rintro e' W5 ⟨rfl, hr, hk⟩
  have HR5 := Lib.hid hr
  clear hr HP
  have HK5 := Lib.hid (HK4.out.trans hk)
  have HZ5 := Lib.hid (hk.blk HZ4.out hzg)
  have HC5 := Lib.hid (hk.blk HC4.out hcg)
  clear hk HK4 HZ4 HR4 HC4
  have hkt := keptT_set HC5.out 2 (.int .i64 x3)
  have HC6 := Lib.hid (show (W5.setCell ⟨gc, 2, none⟩ (.int .i64 x3)).heap[gc]? = some (.cells #[.int .i64 x1, .int .i64 x2, .int .i64 x3, .int .i64 0, .int .i64 0, .slice none 0 0] 62) from heap_set3 HC5.out 2 _)
  have HZ6 := Lib.hid (heap_other HZ5.out hzc 2 (.int .i64 x3))
  have HK6 := Lib.hid (keep1_setC HK5.out hcB 2 (.int .i64 x3))
  have HR6 := Lib.hid (HR5.out.keptT hkt (by decide) HS0.out HK6.out)
  have fr := row_melt HC5.out 2
  have lt := row_lt HC5.out
  have c0 := row_cell HC5.out 2 rfl
  go_upto_region 4 with fail
  clear hkt fr lt c0 HC5 HZ5 HK5 HR5
  generalize (W5.setCell ⟨gc, 2, none⟩ (.int .i64 x3)) = W6 at *
  obtain ⟨x4, s4, hE⟩ : ∃ x t, getS bs 2 s3 = (x, t) := ⟨_, _, rfl⟩
  have HP := Lib.hid (two_any W6 g a n cap bs s3 HR6.out)
  have HV4 := Lib.hid (getS_two bs 2 (by omega) s3)
  rw [hE] at HP HV4
  simp only at HP HV4
  have HE4 := Lib.hid hE
  clear hE
  go_wp2_with fail
  refine HP.out.mono ?_
  rintro e' W7 ⟨rfl, hr, hk⟩
  have HR7 := Lib.hid hr
  clear hr HP
  have HK7 := Lib.hid (HK6.out.trans hk)
  have HZ7 := Lib.hid (hk.blk HZ6.out hzg)
  have HC7 := Lib.hid (hk.blk HC6.out hcg)
  clear hk HK6 HZ6 HR6 HC6
  have hkt := keptT_set HC7.out 3 (.int .i64 x4)
  have HC8 := Lib.hid (show (W7.setCell ⟨gc, 3, none⟩ (.int .i64 x4)).heap[gc]? = some (.cells #[.int .i64 x1, .int .i64 x2, .int .i64 x3, .int .i64 x4, .int .i64 0, .slice none 0 0] 62) from heap_set3 HC7.out 3 _)
  have HZ8 := Lib.hid (heap_other HZ7.out hzc 3 (.int .i64 x4))
  have HK8 := Lib.hid (keep1_setC HK7.out hcB 3 (.int .i64 x4))
  have HR8 := Lib.hid (HR7.out.keptT hkt (by decide) HS0.out HK8.out)
  have fr := row_melt HC7.out 3
  have lt := row_lt HC7.out
  have c0 := row_cell HC7.out 3 rfl
  go_upto_region 5 with fail
  clear hkt fr lt c0 HC7 HZ7 HK7 HR7
  generalize (W7.setCell ⟨gc, 3, none⟩ (.int .i64 x4)) = W8 at *
  obtain ⟨x5, s5, hE⟩ : ∃ x t, getS bs 2 s4 = (x, t) := ⟨_, _, rfl⟩
  have HP := Lib.hid (two_any W8 g a n cap bs s4 HR8.out)
  have HV5 := Lib.hid (getS_two bs 2 (by omega) s4)
  rw [hE] at HP HV5
  simp only at HP HV5
  have HE5 := Lib.hid hE
  clear hE
  go_wp2_with fail
  refine HP.out.mono ?_
  rintro e' W9 ⟨rfl, hr, hk⟩
  have HR9 := Lib.hid hr
  clear hr HP
  have HK9 := Lib.hid (HK8.out.trans hk)
  have HZ9 := Lib.hid (hk.blk HZ8.out hzg)
  have HC9 := Lib.hid (hk.blk HC8.out hcg)
  clear hk HK8 HZ8 HR8 HC8
  have hkt := keptT_set HC9.out 4 (.int .i64 x5)
  have HC10 := Lib.hid (show (W9.setCell ⟨gc, 4, none⟩ (.int .i64 x5)).heap[gc]? = some (.cells #[.int .i64 x1, .int .i64 x2, .int .i64 x3, .int .i64 x4, .int .i64 x5, .slice none 0 0] 62) from heap_set3 HC9.out 4 _)
  have HZ10 := Lib.hid (heap_other HZ9.out hzc 4 (.int .i64 x5))
  have HK10 := Lib.hid (keep1_setC HK9.out hcB 4 (.int .i64 x5))
  have HR10 := Lib.hid (HR9.out.keptT hkt (by decide) HS0.out HK10.out)
  have fr := row_melt HC9.out 4
  have lt := row_lt HC9.out
  have c0 := row_cell HC9.out 4 rfl
  go_upto_region 6 with fail
  clear hkt fr lt c0 HC9 HZ9 HK9 HR9
  generalize (W9.setCell ⟨gc, 4, none⟩ (.int .i64 x5)) = W10 at *
  obtain ⟨x6, s6, hE⟩ : ∃ x t, getS bs 2 s5 = (x, t) := ⟨_, _, rfl⟩
  have HP := Lib.hid (two_any W10 g a n cap bs s5 HR10.out)
  have HV6 := Lib.hid (getS_two bs 2 (by omega) s5)
  rw [hE] at HP HV6
  simp only at HP HV6
  have HE6 := Lib.hid hE
  clear hE
  go_wp2_with fail
  refine HP.out.mono ?_
  rintro e' W11 ⟨rfl, hr, hk⟩
  have HR11 := Lib.hid hr
  clear hr HP
  have HK11 := Lib.hid (HK10.out.trans hk)
  have HZ11 := Lib.hid (hk.blk HZ10.out hzg)
  have HC11 := Lib.hid (hk.blk HC10.out hcg)
  clear hk HK10 HZ10 HR10 HC10
  obtain ⟨N6, hN, hNl⟩ : ∃ N : Nat, x6 = (N : Int) ∧ N ≤ 65535 := by have := HV6.out; exact ⟨x6.toNat, by omega, by omega⟩
  subst hN
  obtain ⟨x7, s7, hE⟩ : ∃ x t, rowS (trapS bs) N6 s6 = (x, t) := ⟨_, _, rfl⟩
  have HP := Lib.hid (rrow_trap W11 g a n cap bs s6 HR11.out N6 hNl (trapS bs) (fun W s' hr _ => (rtrap_any W g a n cap bs s' hr).mono fun e w' h => h))
  rw [hE] at HP
  have HE7 := Lib.hid hE
  clear hE hNl
  go_wp2_with fail
  refine HP.out.mono ?_
  rintro e' W12 ⟨v7, L7, rfl, ho, hx, hr, hk⟩
  simp only at hx
  subst hx
  obtain ⟨ra7, rc7, rfl, _, _⟩ := Ss.ofOwn TW.vals_len (by decide) ho
  have HO7_12 := Lib.hid (own_mono ho HK11.out.size)
  have HR12 := Lib.hid hr
  clear hr HP ho
  have HK12 := Lib.hid (HK11.out.trans hk)
  have HZ12 := Lib.hid (hk.blk HZ11.out hzg)
  have HC12 := Lib.hid (hk.blk HC11.out hcg)
  clear hk HK11 HZ11 HR11 HC11
  have hkt := keptT_set HC12.out 5 (.slice ra7 L7.length rc7)
  have HC13 := Lib.hid (show (W12.setCell ⟨gc, 5, none⟩ (.slice ra7 L7.length rc7)).heap[gc]? = some (.cells #[.int .i64 x1, .int .i64 x2, .int .i64 x3, .int .i64 x4, .int .i64 x5, .slice ra7 L7.length rc7] 62) from heap_set3 HC12.out 5 _)
  have HZ13 := Lib.hid (heap_other HZ12.out hzc 5 (.slice ra7 L7.length rc7))
  have HK13 := Lib.hid (keep1_setC HK12.out hcB 5 (.slice ra7 L7.length rc7))
  have HR13 := Lib.hid (HR12.out.keptT hkt (by decide) HS0.out HK13.out)
  have HO7_13 := Lib.hid (own_keptT HO7_12.out hkt (by decide))
  have fr := row_melt HC12.out 5
  have lt := row_lt HC12.out
  have c0 := row_cell HC12.out 5 rfl
  go_upto_region 7 with fail
  clear hkt fr lt c0 HC12 HZ12 HK12 HR12 HO7_12
  generalize (W12.setCell ⟨gc, 5, none⟩ (.slice ra7 L7.length rc7)) = W13 at *
  have cy0 := row_cell HC13.out 0 rfl
  have z0 := row_cell HZ13.out 0 rfl
  have fz0 := row_melt HZ13.out 0
  have cy1 := row_cell HC13.out 1 rfl
  have z1 := row_cell HZ13.out 1 rfl
  have fz1 := row_melt HZ13.out 1
  have cy2 := row_cell HC13.out 2 rfl
  have z2 := row_cell HZ13.out 2 rfl
  have fz2 := row_melt HZ13.out 2
  have cy3 := row_cell HC13.out 3 rfl
  have z3 := row_cell HZ13.out 3 rfl
  have fz3 := row_melt HZ13.out 3
  have cy4 := row_cell HC13.out 4 rfl
  have z4 := row_cell HZ13.out 4 rfl
  have fz4 := row_melt HZ13.out 4
  have cy5 := row_cell HC13.out 5 rfl
  have z5 := row_cell HZ13.out 5 rfl
  have fz5 := row_melt HZ13.out 5
  have ltz := row_lt HZ13.out
  go_wp2_with fail
  have HZF : ((((((W13.setCell ⟨w.heap.size, 0, none⟩ (.int .i64 x1)).setCell ⟨w.heap.size, 1, none⟩ (.int .i64 x2)).setCell ⟨w.heap.size, 2, none⟩ (.int .i64 x3)).setCell ⟨w.heap.size, 3, none⟩ (.int .i64 x4)).setCell ⟨w.heap.size, 4, none⟩ (.int .i64 x5)).setCell ⟨w.heap.size, 5, none⟩ (.slice ra7 L7.length rc7)).heap[w.heap.size]? = some (.cells #[.int .i64 x1, .int .i64 x2, .int .i64 x3, .int .i64 x4, .int .i64 x5, .slice ra7 L7.length rc7] 62) := (heap_set3 (heap_set3 (heap_set3 (heap_set3 (heap_set3 (heap_set3 HZ13.out 0 _) 1 _) 2 _) 3 _) 4 _) 5 _)
  have HKF : Keep1 g w ((((((W13.setCell ⟨w.heap.size, 0, none⟩ (.int .i64 x1)).setCell ⟨w.heap.size, 1, none⟩ (.int .i64 x2)).setCell ⟨w.heap.size, 2, none⟩ (.int .i64 x3)).setCell ⟨w.heap.size, 3, none⟩ (.int .i64 x4)).setCell ⟨w.heap.size, 4, none⟩ (.int .i64 x5)).setCell ⟨w.heap.size, 5, none⟩ (.slice ra7 L7.length rc7)) := (keep1_setC (keep1_setC (keep1_setC (keep1_setC (keep1_setC (keep1_setC HK13.out (Nat.le_refl _) 0 _) (Nat.le_refl _) 1 _) (Nat.le_refl _) 2 _) (Nat.le_refl _) 3 _) (Nat.le_refl _) 4 _) (Nat.le_refl _) 5 _)
  have hk0 : KeptT 62 W13 ((((((W13.setCell ⟨w.heap.size, 0, none⟩ (.int .i64 x1)).setCell ⟨w.heap.size, 1, none⟩ (.int .i64 x2)).setCell ⟨w.heap.size, 2, none⟩ (.int .i64 x3)).setCell ⟨w.heap.size, 3, none⟩ (.int .i64 x4)).setCell ⟨w.heap.size, 4, none⟩ (.int .i64 x5)).setCell ⟨w.heap.size, 5, none⟩ (.slice ra7 L7.length rc7)) := (KeptT.trans ((KeptT.trans ((KeptT.trans ((KeptT.trans ((KeptT.trans ((KeptT.trans (KeptT.refl _) (keptT_set HZ13.out 0 _))) (keptT_set (heap_set3 HZ13.out 0 _) 1 _))) (keptT_set (heap_set3 (heap_set3 HZ13.out 0 _) 1 _) 2 _))) (keptT_set (heap_set3 (heap_set3 (heap_set3 HZ13.out 0 _) 1 _) 2 _) 3 _))) (keptT_set (heap_set3 (heap_set3 (heap_set3 (heap_set3 HZ13.out 0 _) 1 _) 2 _) 3 _) 4 _))) (keptT_set (heap_set3 (heap_set3 (heap_set3 (heap_set3 (heap_set3 HZ13.out 0 _) 1 _) 2 _) 3 _) 4 _) 5 _))
  have SEQ := Lib.hid (show codeS bs s0 = (⟨x1, x2, x3, x4, x5, L7⟩, s7) by simp only [codeS, bindR, pureR, manyS, Int.toNat_natCast, HE1.out, HE2.out, HE3.out, HE4.out, HE5.out, HE6.out, HE7.out])
  refine bodyPost_ret (results_cell_row rfl _ _ w.heap.size _ _ _ _ rfl HZF Try.underlying62 rfl infoCode) rfl ⟨⟨x1, x2, x3, x4, x5, ra7, L7.length, rc7, L7⟩, rfl, by rw [SEQ.out]; rfl, ⟨own_keptT HO7_13.out hk0 (by decide)⟩, HR13.out.keptT hk0 (by decide) HS0.out HKF |> (fun hh => by rw [SEQ.out]; exact hh), HKF⟩
set_option maxRecDepth 100000 in
set_option maxHeartbeats 16000000 in
theorem rmeth_any (w : World) (g : Nat) (a : Option Addr) (n cap : Nat) (bs : List UInt8) (s0 : St) (h : RdS w g a n cap bs s0) :
    Calls Try.prog 32 #[.pointer (some ⟨g, 0, none⟩)] w fun e w' => ∃ x : MW, e = .returned (.agg x.vals.toArray) ∧ x = (methodS bs s0).1 ∧ RdS w' g a n cap bs (methodS bs s0).2 ∧ Keep1 g w w' := by
  have HS0 := Lib.hid h.sl
  have HGL := Lib.hid h.lt
  have hal : Below w.heap.size w (w.alloc (.cells #[.int .i64 0, .string ⟨#[]⟩, .string ⟨#[]⟩, .bool false, .int .i64 0, .int .i64 0] 87)) := (Below.refl _ _).alloc (Nat.le_refl _) _
  have HZ0 := Lib.hid (heap_alloc_last w (.cells #[.int .i64 0, .string ⟨#[]⟩, .string ⟨#[]⟩, .bool false, .int .i64 0, .int .i64 0] 87))
  have HK0 := Lib.hid (Keep1.of (g := g) hal)
  have HR0 := Lib.hid (h.below hal)
  have hzg : w.heap.size ≠ g := by have := h.lt; omega
  clear hal h
  go_enter Try.func32, Try.ntmps32
  go_upto_region 1 with fail
  generalize w.alloc (.cells #[.int .i64 0, .string ⟨#[]⟩, .string ⟨#[]⟩, .bool false, .int .i64 0, .int .i64 0] 87) = W0 at *
  obtain ⟨x1, s1, hE⟩ : ∃ x t, getS bs 2 s0 = (x, t) := ⟨_, _, rfl⟩
  have HP := Lib.hid (two_any W0 g a n cap bs s0 HR0.out)
  have HV1 := Lib.hid (getS_two bs 2 (by omega) s0)
  rw [hE] at HP HV1
  simp only at HP HV1
  have HE1 := Lib.hid hE
  clear hE
  go_wp2_with fail
  refine HP.out.mono ?_
  rintro e' W1 ⟨rfl, hr, hk⟩
  have HR1 := Lib.hid hr
  clear hr HP
  have HK1 := Lib.hid (HK0.out.trans hk)
  have HZ1 := Lib.hid (hk.blk HZ0.out hzg)
  clear hk HK0 HZ0 HR0
  go_upto_region 2 with fail
  have hal : Below W1.heap.size W1 (W1.alloc (.cells #[.int .i64 x1, .string ⟨#[]⟩, .string ⟨#[]⟩, .bool false, .int .i64 0, .int .i64 0] 87)) := (Below.refl _ _).alloc (Nat.le_refl _) _
  have HC2 := Lib.hid (heap_alloc_last W1 (.cells #[.int .i64 x1, .string ⟨#[]⟩, .string ⟨#[]⟩, .bool false, .int .i64 0, .int .i64 0] 87))
  have HZ2 := Lib.hid (row_below HZ1.out hal)
  have HK2 := Lib.hid (HK1.out.trans (Keep1.of hal))
  have HR2 := Lib.hid (HR1.out.below hal)
  have hcB : w.heap.size ≤ W1.heap.size := HK1.out.size
  have hzc : w.heap.size ≠ W1.heap.size := Nat.ne_of_lt (row_lt HZ1.out)
  have hcg : W1.heap.size ≠ g := Ne.symm (Nat.ne_of_lt HR1.out.lt)
  clear hal HZ1 HK1 HR1
  generalize (W1.alloc (.cells #[.int .i64 x1, .string ⟨#[]⟩, .string ⟨#[]⟩, .bool false, .int .i64 0, .int .i64 0] 87)) = W2 at *
  generalize W1.heap.size = gc at *
  obtain ⟨x2, s2, hE⟩ : ∃ x t, textS bs 1 s1 = (x, t) := ⟨_, _, rfl⟩
  have HP := Lib.hid (name_any W2 g a n cap bs s1 HR2.out)
  have HV2 := Lib.hid (trivial)
  rw [hE] at HP
  unfold encS at HP
  simp only at HP
  have HE2 := Lib.hid hE
  clear hE
  go_wp2_with fail
  refine HP.out.mono ?_
  rintro e' W3 ⟨rfl, hr, hk⟩
  have HR3 := Lib.hid hr
  clear hr HP
  have HK3 := Lib.hid (HK2.out.trans hk)
  have HZ3 := Lib.hid (hk.blk HZ2.out hzg)
  have HC3 := Lib.hid (hk.blk HC2.out hcg)
  clear hk HK2 HZ2 HR2 HC2
  have hkt := keptT_set HC3.out 1 (.string ⟨x2.toArray⟩)
  have HC4 := Lib.hid (show (W3.setCell ⟨gc, 1, none⟩ (.string ⟨x2.toArray⟩)).heap[gc]? = some (.cells #[.int .i64 x1, .string ⟨x2.toArray⟩, .string ⟨#[]⟩, .bool false, .int .i64 0, .int .i64 0] 87) from heap_set3 HC3.out 1 _)
  have HZ4 := Lib.hid (heap_other HZ3.out hzc 1 (.string ⟨x2.toArray⟩))
  have HK4 := Lib.hid (keep1_setC HK3.out hcB 1 (.string ⟨x2.toArray⟩))
  have HR4 := Lib.hid (HR3.out.keptT hkt (by decide) HS0.out HK4.out)
  have fr := row_melt HC3.out 1
  have lt := row_lt HC3.out
  have c0 := row_cell HC3.out 1 rfl
  go_upto_region 3 with fail
  clear hkt fr lt c0 HC3 HZ3 HK3 HR3
  generalize (W3.setCell ⟨gc, 1, none⟩ (.string ⟨x2.toArray⟩)) = W4 at *
  obtain ⟨x3, s3, hE⟩ : ∃ x t, textS bs 1 s2 = (x, t) := ⟨_, _, rfl⟩
  have HP := Lib.hid (name_any W4 g a n cap bs s2 HR4.out)
  have HV3 := Lib.hid (trivial)
  rw [hE] at HP
  unfold encS at HP
  simp only at HP
  have HE3 := Lib.hid hE
  clear hE
  go_wp2_with fail
  refine HP.out.mono ?_
  rintro e' W5 ⟨rfl, hr, hk⟩
  have HR5 := Lib.hid hr
  clear hr HP
  have HK5 := Lib.hid (HK4.out.trans hk)
  have HZ5 := Lib.hid (hk.blk HZ4.out hzg)
  have HC5 := Lib.hid (hk.blk HC4.out hcg)
  clear hk HK4 HZ4 HR4 HC4
  have hkt := keptT_set HC5.out 2 (.string ⟨x3.toArray⟩)
  have HC6 := Lib.hid (show (W5.setCell ⟨gc, 2, none⟩ (.string ⟨x3.toArray⟩)).heap[gc]? = some (.cells #[.int .i64 x1, .string ⟨x2.toArray⟩, .string ⟨x3.toArray⟩, .bool false, .int .i64 0, .int .i64 0] 87) from heap_set3 HC5.out 2 _)
  have HZ6 := Lib.hid (heap_other HZ5.out hzc 2 (.string ⟨x3.toArray⟩))
  have HK6 := Lib.hid (keep1_setC HK5.out hcB 2 (.string ⟨x3.toArray⟩))
  have HR6 := Lib.hid (HR5.out.keptT hkt (by decide) HS0.out HK6.out)
  have fr := row_melt HC5.out 2
  have lt := row_lt HC5.out
  have c0 := row_cell HC5.out 2 rfl
  go_upto_region 4 with fail
  clear hkt fr lt c0 HC5 HZ5 HK5 HR5
  generalize (W5.setCell ⟨gc, 2, none⟩ (.string ⟨x3.toArray⟩)) = W6 at *
  obtain ⟨x4, s4, hE⟩ : ∃ x t, getS bs 1 s3 = (x, t) := ⟨_, _, rfl⟩
  have HP := Lib.hid (get_any W6 g a n cap bs s3 HR6.out 1 (by omega) (by omega))
  have HV4 := Lib.hid (getS_two bs 1 (by omega) s3)
  rw [hE] at HP HV4
  simp only at HP HV4
  have HE4 := Lib.hid hE
  clear hE
  go_wp2_with fail
  refine HP.out.mono ?_
  rintro e' W7 ⟨rfl, hr, hk⟩
  have HR7 := Lib.hid hr
  clear hr HP
  have HK7 := Lib.hid (HK6.out.trans hk)
  have HZ7 := Lib.hid (hk.blk HZ6.out hzg)
  have HC7 := Lib.hid (hk.blk HC6.out hcg)
  clear hk HK6 HZ6 HR6 HC6
  obtain ⟨p4, er4⟩ := s4
  obtain ⟨k0, k1, k2, m0, m1, m2, lg⟩ := HR7.out.k.box
  simp only at k2
  by_cases hs1 : 1 < x4
  · have d1 := decide_eq_true hs1
    by_cases hs2 : er4 = 0
    · subst hs2
      have HST := Lib.hid (show statS x4 (p4, 0) = ((), (p4, 8)) by unfold statS; rw [if_pos ⟨hs1, rfl⟩])
      go_upto_region 7 with fail
      have hk : Keep1 g W7 (W7.setCell ⟨g, 2, none⟩ (.int .i64 8)) := (Keep1.refl g W7).set 2 _
      have hr : RdS (W7.setCell ⟨g, 2, none⟩ (.int .i64 8)) g a n cap bs (p4, 8) := ⟨HR7.out.k.set2, HS0.out.keep1 (HK7.out.trans hk) HR7.out.off, HR7.out.off, HR7.out.le, HR7.out.sm, ⟨fun h => by simp at h, HR7.out.ok.2⟩, HR7.out.ne⟩
      have HR8 := Lib.hid hr
      clear hr
      have HK8 := Lib.hid (HK7.out.trans hk)
      have HZ8 := Lib.hid (hk.blk HZ7.out hzg)
      have HC8 := Lib.hid (hk.blk HC7.out hcg)
      clear hk HK7 HZ7 HR7 HC7
      clear k0 k1 k2 m0 m1 m2 lg d1 hs1
      generalize (W7.setCell ⟨g, 2, none⟩ (.int .i64 8)) = W8 at *
      obtain ⟨y4, hy4⟩ : ∃ y, y = decide (x4 = 1) := ⟨_, rfl⟩
      have HY4 := Lib.hid hy4
      have hyb : (x4 == 1) = y4 := by rw [hy4]; rw [Bool.eq_iff_iff]; simp
      clear hy4
      obtain ⟨s5, hs5⟩ : ∃ t, t = ((p4, 8) : St) := ⟨_, rfl⟩
      rw [← hs5] at HR8
      have HST5 := Lib.hid (show statS x4 (p4, 0) = ((), s5) by rw [hs5]; exact HST.out)
      clear hs5
      have hkt := keptT_set HC8.out 3 (.bool y4)
      have HC9 := Lib.hid (show (W8.setCell ⟨gc, 3, none⟩ (.bool y4)).heap[gc]? = some (.cells #[.int .i64 x1, .string ⟨x2.toArray⟩, .string ⟨x3.toArray⟩, .bool y4, .int .i64 0, .int .i64 0] 87) from heap_set3 HC8.out 3 _)
      have HZ9 := Lib.hid (heap_other HZ8.out hzc 3 (.bool y4))
      have HK9 := Lib.hid (keep1_setC HK8.out hcB 3 (.bool y4))
      have HR9 := Lib.hid (HR8.out.keptT hkt (by decide) HS0.out HK9.out)
      have fr := row_melt HC8.out 3
      have lt := row_lt HC8.out
      have c0 := row_cell HC8.out 3 rfl
      go_upto_region 8 with fail
      clear hkt fr lt c0 HC8 HZ8 HK8 HR8
      generalize (W8.setCell ⟨gc, 3, none⟩ (.bool y4)) = W9 at *
      clear hyb
      obtain ⟨x6, s6, hE⟩ : ∃ x t, lessS bs s5 = (x, t) := ⟨_, _, rfl⟩
      have HP := Lib.hid (less_any W9 g a n cap bs s5 HR9.out)
      have HV6 := Lib.hid (trivial)
      rw [hE] at HP
      simp only at HP
      have HE6 := Lib.hid hE
      clear hE
      go_wp2_with fail
      refine HP.out.mono ?_
      rintro e' W10 ⟨rfl, hr, hk⟩
      have HR10 := Lib.hid hr
      clear hr HP
      have HK10 := Lib.hid (HK9.out.trans hk)
      have HZ10 := Lib.hid (hk.blk HZ9.out hzg)
      have HC10 := Lib.hid (hk.blk HC9.out hcg)
      clear hk HK9 HZ9 HR9 HC9
      have hkt := keptT_set HC10.out 4 (.int .i64 x6)
      have HC11 := Lib.hid (show (W10.setCell ⟨gc, 4, none⟩ (.int .i64 x6)).heap[gc]? = some (.cells #[.int .i64 x1, .string ⟨x2.toArray⟩, .string ⟨x3.toArray⟩, .bool y4, .int .i64 x6, .int .i64 0] 87) from heap_set3 HC10.out 4 _)
      have HZ11 := Lib.hid (heap_other HZ10.out hzc 4 (.int .i64 x6))
      have HK11 := Lib.hid (keep1_setC HK10.out hcB 4 (.int .i64 x6))
      have HR11 := Lib.hid (HR10.out.keptT hkt (by decide) HS0.out HK11.out)
      have fr := row_melt HC10.out 4
      have lt := row_lt HC10.out
      have c0 := row_cell HC10.out 4 rfl
      go_upto_region 9 with fail
      clear hkt fr lt c0 HC10 HZ10 HK10 HR10
      generalize (W10.setCell ⟨gc, 4, none⟩ (.int .i64 x6)) = W11 at *
      obtain ⟨x7, s7, hE⟩ : ∃ x t, lessS bs s6 = (x, t) := ⟨_, _, rfl⟩
      have HP := Lib.hid (less_any W11 g a n cap bs s6 HR11.out)
      have HV7 := Lib.hid (trivial)
      rw [hE] at HP
      simp only at HP
      have HE7 := Lib.hid hE
      clear hE
      go_wp2_with fail
      refine HP.out.mono ?_
      rintro e' W12 ⟨rfl, hr, hk⟩
      have HR12 := Lib.hid hr
      clear hr HP
      have HK12 := Lib.hid (HK11.out.trans hk)
      have HZ12 := Lib.hid (hk.blk HZ11.out hzg)
      have HC12 := Lib.hid (hk.blk HC11.out hcg)
      clear hk HK11 HZ11 HR11 HC11
      have hkt := keptT_set HC12.out 5 (.int .i64 x7)
      have HC13 := Lib.hid (show (W12.setCell ⟨gc, 5, none⟩ (.int .i64 x7)).heap[gc]? = some (.cells #[.int .i64 x1, .string ⟨x2.toArray⟩, .string ⟨x3.toArray⟩, .bool y4, .int .i64 x6, .int .i64 x7] 87) from heap_set3 HC12.out 5 _)
      have HZ13 := Lib.hid (heap_other HZ12.out hzc 5 (.int .i64 x7))
      have HK13 := Lib.hid (keep1_setC HK12.out hcB 5 (.int .i64 x7))
      have HR13 := Lib.hid (HR12.out.keptT hkt (by decide) HS0.out HK13.out)
      have fr := row_melt HC12.out 5
      have lt := row_lt HC12.out
      have c0 := row_cell HC12.out 5 rfl
      go_upto_region 10 with fail
      clear hkt fr lt c0 HC12 HZ12 HK12 HR12
      generalize (W12.setCell ⟨gc, 5, none⟩ (.int .i64 x7)) = W13 at *
      have cy0 := row_cell HC13.out 0 rfl
      have z0 := row_cell HZ13.out 0 rfl
      have fz0 := row_melt HZ13.out 0
      have cy1 := row_cell HC13.out 1 rfl
      have z1 := row_cell HZ13.out 1 rfl
      have fz1 := row_melt HZ13.out 1
      have cy2 := row_cell HC13.out 2 rfl
      have z2 := row_cell HZ13.out 2 rfl
      have fz2 := row_melt HZ13.out 2
      have cy3 := row_cell HC13.out 3 rfl
      have z3 := row_cell HZ13.out 3 rfl
      have fz3 := row_melt HZ13.out 3
      have cy4 := row_cell HC13.out 4 rfl
      have z4 := row_cell HZ13.out 4 rfl
      have fz4 := row_melt HZ13.out 4
      have cy5 := row_cell HC13.out 5 rfl
      have z5 := row_cell HZ13.out 5 rfl
      have fz5 := row_melt HZ13.out 5
      have ltz := row_lt HZ13.out
      go_wp2_with fail
      have HZF : ((((((W13.setCell ⟨w.heap.size, 0, none⟩ (.int .i64 x1)).setCell ⟨w.heap.size, 1, none⟩ (.string ⟨x2.toArray⟩)).setCell ⟨w.heap.size, 2, none⟩ (.string ⟨x3.toArray⟩)).setCell ⟨w.heap.size, 3, none⟩ (.bool y4)).setCell ⟨w.heap.size, 4, none⟩ (.int .i64 x6)).setCell ⟨w.heap.size, 5, none⟩ (.int .i64 x7)).heap[w.heap.size]? = some (.cells #[.int .i64 x1, .string ⟨x2.toArray⟩, .string ⟨x3.toArray⟩, .bool y4, .int .i64 x6, .int .i64 x7] 87) := (heap_set3 (heap_set3 (heap_set3 (heap_set3 (heap_set3 (heap_set3 HZ13.out 0 _) 1 _) 2 _) 3 _) 4 _) 5 _)
      have HKF : Keep1 g w ((((((W13.setCell ⟨w.heap.size, 0, none⟩ (.int .i64 x1)).setCell ⟨w.heap.size, 1, none⟩ (.string ⟨x2.toArray⟩)).setCell ⟨w.heap.size, 2, none⟩ (.string ⟨x3.toArray⟩)).setCell ⟨w.heap.size, 3, none⟩ (.bool y4)).setCell ⟨w.heap.size, 4, none⟩ (.int .i64 x6)).setCell ⟨w.heap.size, 5, none⟩ (.int .i64 x7)) := (keep1_setC (keep1_setC (keep1_setC (keep1_setC (keep1_setC (keep1_setC HK13.out (Nat.le_refl _) 0 _) (Nat.le_refl _) 1 _) (Nat.le_refl _) 2 _) (Nat.le_refl _) 3 _) (Nat.le_refl _) 4 _) (Nat.le_refl _) 5 _)
      have hk0 : KeptT 87 W13 ((((((W13.setCell ⟨w.heap.size, 0, none⟩ (.int .i64 x1)).setCell ⟨w.heap.size, 1, none⟩ (.string ⟨x2.toArray⟩)).setCell ⟨w.heap.size, 2, none⟩ (.string ⟨x3.toArray⟩)).setCell ⟨w.heap.size, 3, none⟩ (.bool y4)).setCell ⟨w.heap.size, 4, none⟩ (.int .i64 x6)).setCell ⟨w.heap.size, 5, none⟩ (.int .i64 x7)) := (KeptT.trans ((KeptT.trans ((KeptT.trans ((KeptT.trans ((KeptT.trans ((KeptT.trans (KeptT.refl _) (keptT_set HZ13.out 0 _))) (keptT_set (heap_set3 HZ13.out 0 _) 1 _))) (keptT_set (heap_set3 (heap_set3 HZ13.out 0 _) 1 _) 2 _))) (keptT_set (heap_set3 (heap_set3 (heap_set3 HZ13.out 0 _) 1 _) 2 _) 3 _))) (keptT_set (heap_set3 (heap_set3 (heap_set3 (heap_set3 HZ13.out 0 _) 1 _) 2 _) 3 _) 4 _))) (keptT_set (heap_set3 (heap_set3 (heap_set3 (heap_set3 (heap_set3 HZ13.out 0 _) 1 _) 2 _) 3 _) 4 _) 5 _))
      have SEQ := Lib.hid (show methodS bs s0 = (⟨x1, x2, x3, y4, x6, x7⟩, s7) by simp only [methodS, bindR, pureR, manyS, Int.toNat_natCast, HE1.out, HE2.out, HE3.out, HE4.out, HST5.out, HY4.out, HE6.out, HE7.out])
      refine bodyPost_ret (results_cell_row rfl _ _ w.heap.size _ _ _ _ rfl HZF Try.underlying87 rfl infoMeth) rfl ⟨⟨x1, x2, x3, y4, x6, x7⟩, rfl, by rw [SEQ.out], HR13.out.keptT hk0 (by decide) HS0.out HKF |> (fun hh => by rw [SEQ.out]; exact hh), HKF⟩
    · have d2 : (er4 == 0) = false := by simp [hs2]
      have HST := Lib.hid (show statS x4 (p4, er4) = ((), (p4, er4)) by unfold statS; rw [if_neg (fun h => hs2 h.2)])
      clear hs1 hs2
      go_upto_region 7 with fail
      clear k0 k1 k2 m0 m1 m2 lg d1 d2
      obtain ⟨y4, hy4⟩ : ∃ y, y = decide (x4 = 1) := ⟨_, rfl⟩
      have HY4 := Lib.hid hy4
      have hyb : (x4 == 1) = y4 := by rw [hy4]; rw [Bool.eq_iff_iff]; simp
      clear hy4
      obtain ⟨s5, hs5⟩ : ∃ t, t = ((p4, er4) : St) := ⟨_, rfl⟩
      rw [← hs5] at HR7
      have HST5 := Lib.hid (show statS x4 (p4, er4) = ((), s5) by rw [hs5]; exact HST.out)
      clear hs5
      have hkt := keptT_set HC7.out 3 (.bool y4)
      have HC8 := Lib.hid (show (W7.setCell ⟨gc, 3, none⟩ (.bool y4)).heap[gc]? = some (.cells #[.int .i64 x1, .string ⟨x2.toArray⟩, .string ⟨x3.toArray⟩, .bool y4, .int .i64 0, .int .i64 0] 87) from heap_set3 HC7.out 3 _)
      have HZ8 := Lib.hid (heap_other HZ7.out hzc 3 (.bool y4))
      have HK8 := Lib.hid (keep1_setC HK7.out hcB 3 (.bool y4))
      have HR8 := Lib.hid (HR7.out.keptT hkt (by decide) HS0.out HK8.out)
      have fr := row_melt HC7.out 3
      have lt := row_lt HC7.out
      have c0 := row_cell HC7.out 3 rfl
      go_upto_region 8 with fail
      clear hkt fr lt c0 HC7 HZ7 HK7 HR7
      generalize (W7.setCell ⟨gc, 3, none⟩ (.bool y4)) = W8 at *
      clear hyb
      obtain ⟨x6, s6, hE⟩ : ∃ x t, lessS bs s5 = (x, t) := ⟨_, _, rfl⟩
      have HP := Lib.hid (less_any W8 g a n cap bs s5 HR8.out)
      have HV6 := Lib.hid (trivial)
      rw [hE] at HP
      simp only at HP
      have HE6 := Lib.hid hE
      clear hE
      go_wp2_with fail
      refine HP.out.mono ?_
      rintro e' W9 ⟨rfl, hr, hk⟩
      have HR9 := Lib.hid hr
      clear hr HP
      have HK9 := Lib.hid (HK8.out.trans hk)
      have HZ9 := Lib.hid (hk.blk HZ8.out hzg)
      have HC9 := Lib.hid (hk.blk HC8.out hcg)
      clear hk HK8 HZ8 HR8 HC8
      have hkt := keptT_set HC9.out 4 (.int .i64 x6)
      have HC10 := Lib.hid (show (W9.setCell ⟨gc, 4, none⟩ (.int .i64 x6)).heap[gc]? = some (.cells #[.int .i64 x1, .string ⟨x2.toArray⟩, .string ⟨x3.toArray⟩, .bool y4, .int .i64 x6, .int .i64 0] 87) from heap_set3 HC9.out 4 _)
      have HZ10 := Lib.hid (heap_other HZ9.out hzc 4 (.int .i64 x6))
      have HK10 := Lib.hid (keep1_setC HK9.out hcB 4 (.int .i64 x6))
      have HR10 := Lib.hid (HR9.out.keptT hkt (by decide) HS0.out HK10.out)
      have fr := row_melt HC9.out 4
      have lt := row_lt HC9.out
      have c0 := row_cell HC9.out 4 rfl
      go_upto_region 9 with fail
      clear hkt fr lt c0 HC9 HZ9 HK9 HR9
      generalize (W9.setCell ⟨gc, 4, none⟩ (.int .i64 x6)) = W10 at *
      obtain ⟨x7, s7, hE⟩ : ∃ x t, lessS bs s6 = (x, t) := ⟨_, _, rfl⟩
      have HP := Lib.hid (less_any W10 g a n cap bs s6 HR10.out)
      have HV7 := Lib.hid (trivial)
      rw [hE] at HP
      simp only at HP
      have HE7 := Lib.hid hE
      clear hE
      go_wp2_with fail
      refine HP.out.mono ?_
      rintro e' W11 ⟨rfl, hr, hk⟩
      have HR11 := Lib.hid hr
      clear hr HP
      have HK11 := Lib.hid (HK10.out.trans hk)
      have HZ11 := Lib.hid (hk.blk HZ10.out hzg)
      have HC11 := Lib.hid (hk.blk HC10.out hcg)
      clear hk HK10 HZ10 HR10 HC10
      have hkt := keptT_set HC11.out 5 (.int .i64 x7)
      have HC12 := Lib.hid (show (W11.setCell ⟨gc, 5, none⟩ (.int .i64 x7)).heap[gc]? = some (.cells #[.int .i64 x1, .string ⟨x2.toArray⟩, .string ⟨x3.toArray⟩, .bool y4, .int .i64 x6, .int .i64 x7] 87) from heap_set3 HC11.out 5 _)
      have HZ12 := Lib.hid (heap_other HZ11.out hzc 5 (.int .i64 x7))
      have HK12 := Lib.hid (keep1_setC HK11.out hcB 5 (.int .i64 x7))
      have HR12 := Lib.hid (HR11.out.keptT hkt (by decide) HS0.out HK12.out)
      have fr := row_melt HC11.out 5
      have lt := row_lt HC11.out
      have c0 := row_cell HC11.out 5 rfl
      go_upto_region 10 with fail
      clear hkt fr lt c0 HC11 HZ11 HK11 HR11
      generalize (W11.setCell ⟨gc, 5, none⟩ (.int .i64 x7)) = W12 at *
      have cy0 := row_cell HC12.out 0 rfl
      have z0 := row_cell HZ12.out 0 rfl
      have fz0 := row_melt HZ12.out 0
      have cy1 := row_cell HC12.out 1 rfl
      have z1 := row_cell HZ12.out 1 rfl
      have fz1 := row_melt HZ12.out 1
      have cy2 := row_cell HC12.out 2 rfl
      have z2 := row_cell HZ12.out 2 rfl
      have fz2 := row_melt HZ12.out 2
      have cy3 := row_cell HC12.out 3 rfl
      have z3 := row_cell HZ12.out 3 rfl
      have fz3 := row_melt HZ12.out 3
      have cy4 := row_cell HC12.out 4 rfl
      have z4 := row_cell HZ12.out 4 rfl
      have fz4 := row_melt HZ12.out 4
      have cy5 := row_cell HC12.out 5 rfl
      have z5 := row_cell HZ12.out 5 rfl
      have fz5 := row_melt HZ12.out 5
      have ltz := row_lt HZ12.out
      go_wp2_with fail
      have HZF : ((((((W12.setCell ⟨w.heap.size, 0, none⟩ (.int .i64 x1)).setCell ⟨w.heap.size, 1, none⟩ (.string ⟨x2.toArray⟩)).setCell ⟨w.heap.size, 2, none⟩ (.string ⟨x3.toArray⟩)).setCell ⟨w.heap.size, 3, none⟩ (.bool y4)).setCell ⟨w.heap.size, 4, none⟩ (.int .i64 x6)).setCell ⟨w.heap.size, 5, none⟩ (.int .i64 x7)).heap[w.heap.size]? = some (.cells #[.int .i64 x1, .string ⟨x2.toArray⟩, .string ⟨x3.toArray⟩, .bool y4, .int .i64 x6, .int .i64 x7] 87) := (heap_set3 (heap_set3 (heap_set3 (heap_set3 (heap_set3 (heap_set3 HZ12.out 0 _) 1 _) 2 _) 3 _) 4 _) 5 _)
      have HKF : Keep1 g w ((((((W12.setCell ⟨w.heap.size, 0, none⟩ (.int .i64 x1)).setCell ⟨w.heap.size, 1, none⟩ (.string ⟨x2.toArray⟩)).setCell ⟨w.heap.size, 2, none⟩ (.string ⟨x3.toArray⟩)).setCell ⟨w.heap.size, 3, none⟩ (.bool y4)).setCell ⟨w.heap.size, 4, none⟩ (.int .i64 x6)).setCell ⟨w.heap.size, 5, none⟩ (.int .i64 x7)) := (keep1_setC (keep1_setC (keep1_setC (keep1_setC (keep1_setC (keep1_setC HK12.out (Nat.le_refl _) 0 _) (Nat.le_refl _) 1 _) (Nat.le_refl _) 2 _) (Nat.le_refl _) 3 _) (Nat.le_refl _) 4 _) (Nat.le_refl _) 5 _)
      have hk0 : KeptT 87 W12 ((((((W12.setCell ⟨w.heap.size, 0, none⟩ (.int .i64 x1)).setCell ⟨w.heap.size, 1, none⟩ (.string ⟨x2.toArray⟩)).setCell ⟨w.heap.size, 2, none⟩ (.string ⟨x3.toArray⟩)).setCell ⟨w.heap.size, 3, none⟩ (.bool y4)).setCell ⟨w.heap.size, 4, none⟩ (.int .i64 x6)).setCell ⟨w.heap.size, 5, none⟩ (.int .i64 x7)) := (KeptT.trans ((KeptT.trans ((KeptT.trans ((KeptT.trans ((KeptT.trans ((KeptT.trans (KeptT.refl _) (keptT_set HZ12.out 0 _))) (keptT_set (heap_set3 HZ12.out 0 _) 1 _))) (keptT_set (heap_set3 (heap_set3 HZ12.out 0 _) 1 _) 2 _))) (keptT_set (heap_set3 (heap_set3 (heap_set3 HZ12.out 0 _) 1 _) 2 _) 3 _))) (keptT_set (heap_set3 (heap_set3 (heap_set3 (heap_set3 HZ12.out 0 _) 1 _) 2 _) 3 _) 4 _))) (keptT_set (heap_set3 (heap_set3 (heap_set3 (heap_set3 (heap_set3 HZ12.out 0 _) 1 _) 2 _) 3 _) 4 _) 5 _))
      have SEQ := Lib.hid (show methodS bs s0 = (⟨x1, x2, x3, y4, x6, x7⟩, s7) by simp only [methodS, bindR, pureR, manyS, Int.toNat_natCast, HE1.out, HE2.out, HE3.out, HE4.out, HST5.out, HY4.out, HE6.out, HE7.out])
      refine bodyPost_ret (results_cell_row rfl _ _ w.heap.size _ _ _ _ rfl HZF Try.underlying87 rfl infoMeth) rfl ⟨⟨x1, x2, x3, y4, x6, x7⟩, rfl, by rw [SEQ.out], HR12.out.keptT hk0 (by decide) HS0.out HKF |> (fun hh => by rw [SEQ.out]; exact hh), HKF⟩
  · have d1 := decide_eq_false hs1
    have HST := Lib.hid (show statS x4 (p4, er4) = ((), (p4, er4)) by unfold statS; rw [if_neg (fun h => hs1 h.1)])
    clear hs1
    go_upto_region 7 with fail
    clear k0 k1 k2 m0 m1 m2 lg d1
    obtain ⟨y4, hy4⟩ : ∃ y, y = decide (x4 = 1) := ⟨_, rfl⟩
    have HY4 := Lib.hid hy4
    have hyb : (x4 == 1) = y4 := by rw [hy4]; rw [Bool.eq_iff_iff]; simp
    clear hy4
    obtain ⟨s5, hs5⟩ : ∃ t, t = ((p4, er4) : St) := ⟨_, rfl⟩
    rw [← hs5] at HR7
    have HST5 := Lib.hid (show statS x4 (p4, er4) = ((), s5) by rw [hs5]; exact HST.out)
    clear hs5
    have hkt := keptT_set HC7.out 3 (.bool y4)
    have HC8 := Lib.hid (show (W7.setCell ⟨gc, 3, none⟩ (.bool y4)).heap[gc]? = some (.cells #[.int .i64 x1, .string ⟨x2.toArray⟩, .string ⟨x3.toArray⟩, .bool y4, .int .i64 0, .int .i64 0] 87) from heap_set3 HC7.out 3 _)
    have HZ8 := Lib.hid (heap_other HZ7.out hzc 3 (.bool y4))
    have HK8 := Lib.hid (keep1_setC HK7.out hcB 3 (.bool y4))
    have HR8 := Lib.hid (HR7.out.keptT hkt (by decide) HS0.out HK8.out)
    have fr := row_melt HC7.out 3
    have lt := row_lt HC7.out
    have c0 := row_cell HC7.out 3 rfl
    go_upto_region 8 with fail
    clear hkt fr lt c0 HC7 HZ7 HK7 HR7
    generalize (W7.setCell ⟨gc, 3, none⟩ (.bool y4)) = W8 at *
    clear hyb
    obtain ⟨x6, s6, hE⟩ : ∃ x t, lessS bs s5 = (x, t) := ⟨_, _, rfl⟩
    have HP := Lib.hid (less_any W8 g a n cap bs s5 HR8.out)
    have HV6 := Lib.hid (trivial)
    rw [hE] at HP
    simp only at HP
    have HE6 := Lib.hid hE
    clear hE
    go_wp2_with fail
    refine HP.out.mono ?_
    rintro e' W9 ⟨rfl, hr, hk⟩
    have HR9 := Lib.hid hr
    clear hr HP
    have HK9 := Lib.hid (HK8.out.trans hk)
    have HZ9 := Lib.hid (hk.blk HZ8.out hzg)
    have HC9 := Lib.hid (hk.blk HC8.out hcg)
    clear hk HK8 HZ8 HR8 HC8
    have hkt := keptT_set HC9.out 4 (.int .i64 x6)
    have HC10 := Lib.hid (show (W9.setCell ⟨gc, 4, none⟩ (.int .i64 x6)).heap[gc]? = some (.cells #[.int .i64 x1, .string ⟨x2.toArray⟩, .string ⟨x3.toArray⟩, .bool y4, .int .i64 x6, .int .i64 0] 87) from heap_set3 HC9.out 4 _)
    have HZ10 := Lib.hid (heap_other HZ9.out hzc 4 (.int .i64 x6))
    have HK10 := Lib.hid (keep1_setC HK9.out hcB 4 (.int .i64 x6))
    have HR10 := Lib.hid (HR9.out.keptT hkt (by decide) HS0.out HK10.out)
    have fr := row_melt HC9.out 4
    have lt := row_lt HC9.out
    have c0 := row_cell HC9.out 4 rfl
    go_upto_region 9 with fail
    clear hkt fr lt c0 HC9 HZ9 HK9 HR9
    generalize (W9.setCell ⟨gc, 4, none⟩ (.int .i64 x6)) = W10 at *
    obtain ⟨x7, s7, hE⟩ : ∃ x t, lessS bs s6 = (x, t) := ⟨_, _, rfl⟩
    have HP := Lib.hid (less_any W10 g a n cap bs s6 HR10.out)
    have HV7 := Lib.hid (trivial)
    rw [hE] at HP
    simp only at HP
    have HE7 := Lib.hid hE
    clear hE
    go_wp2_with fail
    refine HP.out.mono ?_
    rintro e' W11 ⟨rfl, hr, hk⟩
    have HR11 := Lib.hid hr
    clear hr HP
    have HK11 := Lib.hid (HK10.out.trans hk)
    have HZ11 := Lib.hid (hk.blk HZ10.out hzg)
    have HC11 := Lib.hid (hk.blk HC10.out hcg)
    clear hk HK10 HZ10 HR10 HC10
    have hkt := keptT_set HC11.out 5 (.int .i64 x7)
    have HC12 := Lib.hid (show (W11.setCell ⟨gc, 5, none⟩ (.int .i64 x7)).heap[gc]? = some (.cells #[.int .i64 x1, .string ⟨x2.toArray⟩, .string ⟨x3.toArray⟩, .bool y4, .int .i64 x6, .int .i64 x7] 87) from heap_set3 HC11.out 5 _)
    have HZ12 := Lib.hid (heap_other HZ11.out hzc 5 (.int .i64 x7))
    have HK12 := Lib.hid (keep1_setC HK11.out hcB 5 (.int .i64 x7))
    have HR12 := Lib.hid (HR11.out.keptT hkt (by decide) HS0.out HK12.out)
    have fr := row_melt HC11.out 5
    have lt := row_lt HC11.out
    have c0 := row_cell HC11.out 5 rfl
    go_upto_region 10 with fail
    clear hkt fr lt c0 HC11 HZ11 HK11 HR11
    generalize (W11.setCell ⟨gc, 5, none⟩ (.int .i64 x7)) = W12 at *
    have cy0 := row_cell HC12.out 0 rfl
    have z0 := row_cell HZ12.out 0 rfl
    have fz0 := row_melt HZ12.out 0
    have cy1 := row_cell HC12.out 1 rfl
    have z1 := row_cell HZ12.out 1 rfl
    have fz1 := row_melt HZ12.out 1
    have cy2 := row_cell HC12.out 2 rfl
    have z2 := row_cell HZ12.out 2 rfl
    have fz2 := row_melt HZ12.out 2
    have cy3 := row_cell HC12.out 3 rfl
    have z3 := row_cell HZ12.out 3 rfl
    have fz3 := row_melt HZ12.out 3
    have cy4 := row_cell HC12.out 4 rfl
    have z4 := row_cell HZ12.out 4 rfl
    have fz4 := row_melt HZ12.out 4
    have cy5 := row_cell HC12.out 5 rfl
    have z5 := row_cell HZ12.out 5 rfl
    have fz5 := row_melt HZ12.out 5
    have ltz := row_lt HZ12.out
    go_wp2_with fail
    have HZF : ((((((W12.setCell ⟨w.heap.size, 0, none⟩ (.int .i64 x1)).setCell ⟨w.heap.size, 1, none⟩ (.string ⟨x2.toArray⟩)).setCell ⟨w.heap.size, 2, none⟩ (.string ⟨x3.toArray⟩)).setCell ⟨w.heap.size, 3, none⟩ (.bool y4)).setCell ⟨w.heap.size, 4, none⟩ (.int .i64 x6)).setCell ⟨w.heap.size, 5, none⟩ (.int .i64 x7)).heap[w.heap.size]? = some (.cells #[.int .i64 x1, .string ⟨x2.toArray⟩, .string ⟨x3.toArray⟩, .bool y4, .int .i64 x6, .int .i64 x7] 87) := (heap_set3 (heap_set3 (heap_set3 (heap_set3 (heap_set3 (heap_set3 HZ12.out 0 _) 1 _) 2 _) 3 _) 4 _) 5 _)
    have HKF : Keep1 g w ((((((W12.setCell ⟨w.heap.size, 0, none⟩ (.int .i64 x1)).setCell ⟨w.heap.size, 1, none⟩ (.string ⟨x2.toArray⟩)).setCell ⟨w.heap.size, 2, none⟩ (.string ⟨x3.toArray⟩)).setCell ⟨w.heap.size, 3, none⟩ (.bool y4)).setCell ⟨w.heap.size, 4, none⟩ (.int .i64 x6)).setCell ⟨w.heap.size, 5, none⟩ (.int .i64 x7)) := (keep1_setC (keep1_setC (keep1_setC (keep1_setC (keep1_setC (keep1_setC HK12.out (Nat.le_refl _) 0 _) (Nat.le_refl _) 1 _) (Nat.le_refl _) 2 _) (Nat.le_refl _) 3 _) (Nat.le_refl _) 4 _) (Nat.le_refl _) 5 _)
    have hk0 : KeptT 87 W12 ((((((W12.setCell ⟨w.heap.size, 0, none⟩ (.int .i64 x1)).setCell ⟨w.heap.size, 1, none⟩ (.string ⟨x2.toArray⟩)).setCell ⟨w.heap.size, 2, none⟩ (.string ⟨x3.toArray⟩)).setCell ⟨w.heap.size, 3, none⟩ (.bool y4)).setCell ⟨w.heap.size, 4, none⟩ (.int .i64 x6)).setCell ⟨w.heap.size, 5, none⟩ (.int .i64 x7)) := (KeptT.trans ((KeptT.trans ((KeptT.trans ((KeptT.trans ((KeptT.trans ((KeptT.trans (KeptT.refl _) (keptT_set HZ12.out 0 _))) (keptT_set (heap_set3 HZ12.out 0 _) 1 _))) (keptT_set (heap_set3 (heap_set3 HZ12.out 0 _) 1 _) 2 _))) (keptT_set (heap_set3 (heap_set3 (heap_set3 HZ12.out 0 _) 1 _) 2 _) 3 _))) (keptT_set (heap_set3 (heap_set3 (heap_set3 (heap_set3 HZ12.out 0 _) 1 _) 2 _) 3 _) 4 _))) (keptT_set (heap_set3 (heap_set3 (heap_set3 (heap_set3 (heap_set3 HZ12.out 0 _) 1 _) 2 _) 3 _) 4 _) 5 _))
    have SEQ := Lib.hid (show methodS bs s0 = (⟨x1, x2, x3, y4, x6, x7⟩, s7) by simp only [methodS, bindR, pureR, manyS, Int.toNat_natCast, HE1.out, HE2.out, HE3.out, HE4.out, HST5.out, HY4.out, HE6.out, HE7.out])
    refine bodyPost_ret (results_cell_row rfl _ _ w.heap.size _ _ _ _ rfl HZF Try.underlying87 rfl infoMeth) rfl ⟨⟨x1, x2, x3, y4, x6, x7⟩, rfl, by rw [SEQ.out], HR12.out.keptT hk0 (by decide) HS0.out HKF |> (fun hh => by rw [SEQ.out]; exact hh), HKF⟩
end Go.Proofs.Ytbcldlbmbdfejaa
