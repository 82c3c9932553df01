/- ops: the reference's one (printed by gen/ops5.py). No condition. -/
import Derived.Test.YtfhajbfgdbcpeaaOpsRef
import Derived.Test.YtfhajbfgdbcpeaaSs2
import Derived.Test.YtfhajbfgdbcpeaaRegionS
namespace Go.Proofs.Ytfhajbfgdbcpeaa
open Go.ChangeShapes Go.WideShapes Go.ChangeAt Go.RowKit
/-- What one answers: its bytes are the instruction's, if it may be. -/
def OneR (r : RW) (w : World) (e : Ending) (w' : World) : Prop :=
  ∃ a m c bs, e = .returned (.tuple #[.slice a m c, .bool (fitsB r (formN r.op))]) ∧ Sl encB w' a m bs ∧ m ≤ c ∧ (fitsB r (formN r.op) = true → bs = encOne r) ∧ Below w.heap.size w w'
theorem OneR.no {r : RW} {w w' : World} (h : fitsB r (formN r.op) = false) (hb : Below w.heap.size w w') : OneR r w (.returned (.tuple #[.slice none 0 0, .bool false])) w' :=
  ⟨none, 0, 0, [], by rw [h], Sl.nil _ _, Nat.le_refl _, (fun h1 => by rw [h] at h1; cases h1), hb⟩
theorem cell_put1 (y : Int) : [Value.int .u8 (IntKind.u8.wrap y)] = (putB (u64N y) 1).map encB := by
  rw [putB_succ _ 0]
  simp only [putB, List.nil_append, List.map_cons, List.map_nil, encB]
  rw [IntKind.wrap_u8]
  congr 2
  unfold u64N
  have h : (y % 18446744073709551616).toNat % 256 < 256 := Nat.mod_lt _ (by decide)
  rw [UInt8.toNat_ofNat_of_lt' h]
  omega
set_option maxRecDepth 100000 in
set_option maxHeartbeats 8000000 in
theorem refone_0 (w : World) (p : Int) (o : Nat) (x y : Int) (hop : o < 256) (hf : formN o = 0) : Calls Try.prog 26 #[.agg #[.int .i64 p, .int .u8 (o : Nat), .int .i64 x, .int .i64 y]] w (OneR ⟨p, o, x, y⟩ w) := by
  have HFM := Lib.hid (fun w' => refForm_any w' o hop)
  rw [hf] at HFM
  have HFI : Hid (formN (⟨p, o, x, y⟩ : RW).op = 0) := Lib.hid hf
  have HOB := Lib.hid (encB_nat o hop)
  have HKA := Lib.hid (show RBlk (w.alloc (.cells #[.int .i64 p, .int .u8 (o : Nat), .int .i64 x, .int .i64 y] 36)) w.heap.size p o x y from heap_alloc_last w _)
  have HS2 := Lib.hid (show Sl encB ((w.alloc (.cells #[.int .i64 p, .int .u8 (o : Nat), .int .i64 x, .int .i64 y] 36)).alloc (.cells #[.int .u8 (o : Nat)] 5)) (some ⟨w.heap.size + 1, 0, none⟩) 1 [UInt8.ofNat o] by
    have h := Sl.lit (enc := encB) (xs := [UInt8.ofNat o]) (C := #[.int .u8 (o : Nat)]) (heap_alloc_last (w.alloc (.cells #[.int .i64 p, .int .u8 (o : Nat), .int .i64 x, .int .i64 y] 36)) (.cells #[.int .u8 (o : Nat)] 5)) (by rw [HOB.out]; rfl) rfl
    simpa using h)
  have HB2 := Lib.hid (show Below w.heap.size w ((w.alloc (.cells #[.int .i64 p, .int .u8 (o : Nat), .int .i64 x, .int .i64 y] 36)).alloc (.cells #[.int .u8 (o : Nat)] 5)) from ((Below.refl _ _).alloc (Nat.le_refl _) _).alloc (by simp) _)
  have HK2 := Lib.hid (HKA.out.below ((Below.refl (w.alloc (.cells #[.int .i64 p, .int .u8 (o : Nat), .int .i64 x, .int .i64 y] 36)).heap.size (w.alloc (.cells #[.int .i64 p, .int .u8 (o : Nat), .int .i64 x, .int .i64 y] 36))).alloc (Nat.le_refl _) (.cells #[.int .u8 (o : Nat)] 5)))
  have HNO := Lib.hid (show fitsB ⟨p, o, x, y⟩ (formN (⟨p, o, x, y⟩ : RW).op) = false by rw [HFI.out]; unfold fitsB; simp)
  go_enter Try.func26, Try.ntmps26
  go_upto_region 4 with fail
  generalize hW : (w.alloc (.cells #[.int .i64 p, .int .u8 (o : Nat), .int .i64 x, .int .i64 y] 36)).alloc (.cells #[.int .u8 (o : Nat)] 5) = W at *
  clear hW HKA
  obtain ⟨⟨c0, c1, c2, c3⟩, _, hgW⟩ := HK2.out.box
  go_wp2_with fail
  refine (HFM.out _).mono ?_
  rintro e w' ⟨rfl, rfl⟩
  go_wp2_with fail
  go_ret2
  exact OneR.no HNO.out HB2.out
set_option maxRecDepth 100000 in
set_option maxHeartbeats 8000000 in
theorem refone_1 (w : World) (p : Int) (o : Nat) (x y : Int) (hop : o < 256) (hf : formN o = 1) : Calls Try.prog 26 #[.agg #[.int .i64 p, .int .u8 (o : Nat), .int .i64 x, .int .i64 y]] w (OneR ⟨p, o, x, y⟩ w) := by
  have HFM := Lib.hid (fun w' => refForm_any w' o hop)
  rw [hf] at HFM
  have HFI : Hid (formN (⟨p, o, x, y⟩ : RW).op = 1) := Lib.hid hf
  have HOB := Lib.hid (encB_nat o hop)
  have HKA := Lib.hid (show RBlk (w.alloc (.cells #[.int .i64 p, .int .u8 (o : Nat), .int .i64 x, .int .i64 y] 36)) w.heap.size p o x y from heap_alloc_last w _)
  have HS2 := Lib.hid (show Sl encB ((w.alloc (.cells #[.int .i64 p, .int .u8 (o : Nat), .int .i64 x, .int .i64 y] 36)).alloc (.cells #[.int .u8 (o : Nat)] 5)) (some ⟨w.heap.size + 1, 0, none⟩) 1 [UInt8.ofNat o] by
    have h := Sl.lit (enc := encB) (xs := [UInt8.ofNat o]) (C := #[.int .u8 (o : Nat)]) (heap_alloc_last (w.alloc (.cells #[.int .i64 p, .int .u8 (o : Nat), .int .i64 x, .int .i64 y] 36)) (.cells #[.int .u8 (o : Nat)] 5)) (by rw [HOB.out]; rfl) rfl
    simpa using h)
  have HB2 := Lib.hid (show Below w.heap.size w ((w.alloc (.cells #[.int .i64 p, .int .u8 (o : Nat), .int .i64 x, .int .i64 y] 36)).alloc (.cells #[.int .u8 (o : Nat)] 5)) from ((Below.refl _ _).alloc (Nat.le_refl _) _).alloc (by simp) _)
  have HK2 := Lib.hid (HKA.out.below ((Below.refl (w.alloc (.cells #[.int .i64 p, .int .u8 (o : Nat), .int .i64 x, .int .i64 y] 36)).heap.size (w.alloc (.cells #[.int .i64 p, .int .u8 (o : Nat), .int .i64 x, .int .i64 y] 36))).alloc (Nat.le_refl _) (.cells #[.int .u8 (o : Nat)] 5)))
  by_cases hx : x = 0
  · have ex : (x == 0) = true := by simp [hx]
    by_cases hy : y = 0
    · have ey : (y == 0) = true := by simp [hy]
      have HYS := Lib.hid (show fitsB ⟨p, o, x, y⟩ (formN (⟨p, o, x, y⟩ : RW).op) = true by rw [HFI.out]; unfold fitsB; simp [hx, hy])
      have HEN := Lib.hid (show encOne ⟨p, o, x, y⟩ = [UInt8.ofNat o] by rw [encE p o x y (by rw [show formN o = 1 from HFI.out]; decide) (by rw [show formN o = 1 from HFI.out]; decide), show formN o = 1 from HFI.out]; rfl)
      clear hx hy
      go_enter Try.func26, Try.ntmps26
      go_upto_region 4 with fail
      generalize hW : (w.alloc (.cells #[.int .i64 p, .int .u8 (o : Nat), .int .i64 x, .int .i64 y] 36)).alloc (.cells #[.int .u8 (o : Nat)] 5) = W at *
      clear hW HKA
      obtain ⟨⟨c0, c1, c2, c3⟩, _, hgW⟩ := HK2.out.box
      go_wp2_with fail
      refine (HFM.out _).mono ?_
      rintro e w' ⟨rfl, rfl⟩
      go_wp2_with fail
      go_quiet (fail)
      go_wp2_with fail
      go_ret2
      exact ⟨_, 1, 1, _, by first | (rw [HYS.out]; done) | (rw [HYS.out]; rfl), HS2.out.below (bdrewN (Below.refl _ _) _), Nat.le_refl _, fun _ => HEN.out.symm, bdrewN HB2.out _⟩
    · have ey : (y == 0) = false := by simp [hy]
      have HYS := Lib.hid (show fitsB ⟨p, o, x, y⟩ (formN (⟨p, o, x, y⟩ : RW).op) = false by rw [HFI.out]; unfold fitsB; simp [hx, hy])
      clear hx hy
      go_enter Try.func26, Try.ntmps26
      go_upto_region 4 with fail
      generalize hW : (w.alloc (.cells #[.int .i64 p, .int .u8 (o : Nat), .int .i64 x, .int .i64 y] 36)).alloc (.cells #[.int .u8 (o : Nat)] 5) = W at *
      clear hW HKA
      obtain ⟨⟨c0, c1, c2, c3⟩, _, hgW⟩ := HK2.out.box
      go_wp2_with fail
      refine (HFM.out _).mono ?_
      rintro e w' ⟨rfl, rfl⟩
      go_wp2_with fail
      go_quiet (fail)
      go_wp2_with fail
      go_ret2
      exact ⟨_, 1, 1, _, by first | (rw [HYS.out]; done) | (rw [HYS.out]; rfl), HS2.out.below (bdrewN (Below.refl _ _) _), Nat.le_refl _, (fun h => by rw [HYS.out] at h; cases h), bdrewN HB2.out _⟩
  · have ex : (x == 0) = false := by simp [hx]
    have HYS := Lib.hid (show fitsB ⟨p, o, x, y⟩ (formN (⟨p, o, x, y⟩ : RW).op) = false by rw [HFI.out]; unfold fitsB; simp [hx])
    clear hx
    go_enter Try.func26, Try.ntmps26
    go_upto_region 4 with fail
    generalize hW : (w.alloc (.cells #[.int .i64 p, .int .u8 (o : Nat), .int .i64 x, .int .i64 y] 36)).alloc (.cells #[.int .u8 (o : Nat)] 5) = W at *
    clear hW HKA
    obtain ⟨⟨c0, c1, c2, c3⟩, _, hgW⟩ := HK2.out.box
    go_wp2_with fail
    refine (HFM.out _).mono ?_
    rintro e w' ⟨rfl, rfl⟩
    go_wp2_with fail
    go_quiet (fail)
    go_wp2_with fail
    go_ret2
    exact ⟨_, 1, 1, _, by first | (rw [HYS.out]; done) | (rw [HYS.out]; rfl), HS2.out.below (bdrewN (Below.refl _ _) _), Nat.le_refl _, (fun h => by rw [HYS.out] at h; cases h), bdrewN HB2.out _⟩
set_option maxRecDepth 100000 in
set_option maxHeartbeats 8000000 in
theorem refone_2 (w : World) (p : Int) (o : Nat) (x y : Int) (hop : o < 256) (hf : formN o = 2) : Calls Try.prog 26 #[.agg #[.int .i64 p, .int .u8 (o : Nat), .int .i64 x, .int .i64 y]] w (OneR ⟨p, o, x, y⟩ w) := by
  have HFM := Lib.hid (fun w' => refForm_any w' o hop)
  rw [hf] at HFM
  have HFI : Hid (formN (⟨p, o, x, y⟩ : RW).op = 2) := Lib.hid hf
  have HOB := Lib.hid (encB_nat o hop)
  have HKA := Lib.hid (show RBlk (w.alloc (.cells #[.int .i64 p, .int .u8 (o : Nat), .int .i64 x, .int .i64 y] 36)) w.heap.size p o x y from heap_alloc_last w _)
  have HS2 := Lib.hid (show Sl encB ((w.alloc (.cells #[.int .i64 p, .int .u8 (o : Nat), .int .i64 x, .int .i64 y] 36)).alloc (.cells #[.int .u8 (o : Nat)] 5)) (some ⟨w.heap.size + 1, 0, none⟩) 1 [UInt8.ofNat o] by
    have h := Sl.lit (enc := encB) (xs := [UInt8.ofNat o]) (C := #[.int .u8 (o : Nat)]) (heap_alloc_last (w.alloc (.cells #[.int .i64 p, .int .u8 (o : Nat), .int .i64 x, .int .i64 y] 36)) (.cells #[.int .u8 (o : Nat)] 5)) (by rw [HOB.out]; rfl) rfl
    simpa using h)
  have HB2 := Lib.hid (show Below w.heap.size w ((w.alloc (.cells #[.int .i64 p, .int .u8 (o : Nat), .int .i64 x, .int .i64 y] 36)).alloc (.cells #[.int .u8 (o : Nat)] 5)) from ((Below.refl _ _).alloc (Nat.le_refl _) _).alloc (by simp) _)
  have HK2 := Lib.hid (HKA.out.below ((Below.refl (w.alloc (.cells #[.int .i64 p, .int .u8 (o : Nat), .int .i64 x, .int .i64 y] 36)).heap.size (w.alloc (.cells #[.int .i64 p, .int .u8 (o : Nat), .int .i64 x, .int .i64 y] 36))).alloc (Nat.le_refl _) (.cells #[.int .u8 (o : Nat)] 5)))
  obtain ⟨ux, hux⟩ : ∃ u, u = u64N x := ⟨_, rfl⟩
  have wx : IntKind.u64.wrap x = (ux : Int) := by rw [hux]; exact u64N_wrap x
  have HUX := Lib.hid hux
  have HLX := Lib.hid (show ux < 18446744073709551616 by rw [hux]; exact u64N_lt _)
  clear hux
  by_cases h1 : x < 0
  · have e1 : decide (x < 0) = true := by simp; omega
    have HNO := Lib.hid (show fitsB ⟨p, o, x, y⟩ (formN (⟨p, o, x, y⟩ : RW).op) = false by rw [HFI.out]; unfold fitsB; simp; try omega)
    clear h1
    go_enter Try.func26, Try.ntmps26
    go_upto_region 4 with fail
    generalize hW : (w.alloc (.cells #[.int .i64 p, .int .u8 (o : Nat), .int .i64 x, .int .i64 y] 36)).alloc (.cells #[.int .u8 (o : Nat)] 5) = W at *
    clear hW HKA
    obtain ⟨⟨c0, c1, c2, c3⟩, _, hgW⟩ := HK2.out.box
    go_wp2_with fail
    refine (HFM.out _).mono ?_
    rintro e w' ⟨rfl, rfl⟩
    go_wp2_with fail
    go_ret2
    exact OneR.no HNO.out HB2.out
  by_cases h2 : 255 < x
  · have e1 : decide (x < 0) = false := by simp; omega
    have e2 : decide (255 < x) = true := by simp; omega
    have HNO := Lib.hid (show fitsB ⟨p, o, x, y⟩ (formN (⟨p, o, x, y⟩ : RW).op) = false by rw [HFI.out]; unfold fitsB; simp; try omega)
    clear h1 h2
    go_enter Try.func26, Try.ntmps26
    go_upto_region 4 with fail
    generalize hW : (w.alloc (.cells #[.int .i64 p, .int .u8 (o : Nat), .int .i64 x, .int .i64 y] 36)).alloc (.cells #[.int .u8 (o : Nat)] 5) = W at *
    clear hW HKA
    obtain ⟨⟨c0, c1, c2, c3⟩, _, hgW⟩ := HK2.out.box
    go_wp2_with fail
    refine (HFM.out _).mono ?_
    rintro e w' ⟨rfl, rfl⟩
    go_wp2_with fail
    go_ret2
    exact OneR.no HNO.out HB2.out
  have e1 : decide (x < 0) = false := by simp; omega
  have e2 : decide (255 < x) = false := by simp; omega
  go_enter Try.func26, Try.ntmps26
  go_upto_region 4 with fail
  generalize hW : (w.alloc (.cells #[.int .i64 p, .int .u8 (o : Nat), .int .i64 x, .int .i64 y] 36)).alloc (.cells #[.int .u8 (o : Nat)] 5) = W at *
  clear hW HKA
  obtain ⟨⟨c0, c1, c2, c3⟩, _, hgW⟩ := HK2.out.box
  go_wp2_with fail
  refine (HFM.out _).mono ?_
  rintro e w' ⟨rfl, rfl⟩
  go_wp2_with fail
  refine (refPut_any _ _ 1 1 [UInt8.ofNat o] ux 1 HS2.out (by decide) HLX.out (by decide) (by decide)).mono ?_
  rintro e w6 ⟨v6, m6, rfl, ho6, hb6⟩
  obtain ⟨a6, c6, rfl, hs6, hc6⟩ := Sl.ofOwn ho6
  have HO6 := Lib.hid ho6
  have HW6 := Lib.hid hb6
  have HS6 := Lib.hid hs6
  have HB6 := Lib.hid (HB2.out.trans (hb6.mono HB2.out.size))
  have HK6 := Lib.hid (HK2.out.below hb6)
  clear ho6 hs6 hb6 c0 c1 c2 c3 hgW
  obtain ⟨⟨c0, c1, c2, c3⟩, _, hgW⟩ := HK6.out.box
  go_wp2_with fail
  refine (HFM.out _).mono ?_
  rintro e w' ⟨rfl, rfl⟩
  by_cases hy : y = 0
  · have ey : (y == 0) = true := by simp [hy]
    have HYS := Lib.hid (show fitsB ⟨p, o, x, y⟩ (formN (⟨p, o, x, y⟩ : RW).op) = true by rw [HFI.out]; unfold fitsB; simp [hy]; omega)
    have HEN := Lib.hid (show encOne ⟨p, o, x, y⟩ = [UInt8.ofNat o] ++ putB ux 1 by rw [encE p o x y (by rw [show formN o = 2 from HFI.out]; decide) (by rw [show formN o = 2 from HFI.out]; decide), show formN o = 2 from HFI.out, HUX.out]; rfl)
    clear hy
    go_wp2_with fail
    go_quiet (fail)
    go_wp2_with fail
    go_ret2
    exact ⟨a6, m6, c6, _, by first | (rw [HYS.out]; done) | (rw [HYS.out]; rfl), HS6.out.below (bdrewN (Below.refl _ _) _), hc6, fun _ => HEN.out.symm, bdrewN HB6.out _⟩
  · have ey : (y == 0) = false := by simp [hy]
    have HNO := Lib.hid (show fitsB ⟨p, o, x, y⟩ (formN (⟨p, o, x, y⟩ : RW).op) = false by rw [HFI.out]; unfold fitsB; simp [hy])
    clear hy
    go_wp2_with fail
    go_quiet (fail)
    go_wp2_with fail
    go_ret2
    exact ⟨a6, m6, c6, _, by first | (rw [HNO.out]; done) | (rw [HNO.out]; rfl), HS6.out.below (bdrewN (Below.refl _ _) _), hc6, (fun h => by rw [HNO.out] at h; cases h), bdrewN HB6.out _⟩
set_option maxRecDepth 100000 in
set_option maxHeartbeats 8000000 in
theorem refone_3 (w : World) (p : Int) (o : Nat) (x y : Int) (hop : o < 256) (hf : formN o = 3) : Calls Try.prog 26 #[.agg #[.int .i64 p, .int .u8 (o : Nat), .int .i64 x, .int .i64 y]] w (OneR ⟨p, o, x, y⟩ w) := by
  have HFM := Lib.hid (fun w' => refForm_any w' o hop)
  rw [hf] at HFM
  have HFI : Hid (formN (⟨p, o, x, y⟩ : RW).op = 3) := Lib.hid hf
  have HOB := Lib.hid (encB_nat o hop)
  have HKA := Lib.hid (show RBlk (w.alloc (.cells #[.int .i64 p, .int .u8 (o : Nat), .int .i64 x, .int .i64 y] 36)) w.heap.size p o x y from heap_alloc_last w _)
  have HS2 := Lib.hid (show Sl encB ((w.alloc (.cells #[.int .i64 p, .int .u8 (o : Nat), .int .i64 x, .int .i64 y] 36)).alloc (.cells #[.int .u8 (o : Nat)] 5)) (some ⟨w.heap.size + 1, 0, none⟩) 1 [UInt8.ofNat o] by
    have h := Sl.lit (enc := encB) (xs := [UInt8.ofNat o]) (C := #[.int .u8 (o : Nat)]) (heap_alloc_last (w.alloc (.cells #[.int .i64 p, .int .u8 (o : Nat), .int .i64 x, .int .i64 y] 36)) (.cells #[.int .u8 (o : Nat)] 5)) (by rw [HOB.out]; rfl) rfl
    simpa using h)
  have HB2 := Lib.hid (show Below w.heap.size w ((w.alloc (.cells #[.int .i64 p, .int .u8 (o : Nat), .int .i64 x, .int .i64 y] 36)).alloc (.cells #[.int .u8 (o : Nat)] 5)) from ((Below.refl _ _).alloc (Nat.le_refl _) _).alloc (by simp) _)
  have HK2 := Lib.hid (HKA.out.below ((Below.refl (w.alloc (.cells #[.int .i64 p, .int .u8 (o : Nat), .int .i64 x, .int .i64 y] 36)).heap.size (w.alloc (.cells #[.int .i64 p, .int .u8 (o : Nat), .int .i64 x, .int .i64 y] 36))).alloc (Nat.le_refl _) (.cells #[.int .u8 (o : Nat)] 5)))
  obtain ⟨ux, hux⟩ : ∃ u, u = u64N x := ⟨_, rfl⟩
  have wx : IntKind.u64.wrap x = (ux : Int) := by rw [hux]; exact u64N_wrap x
  have HUX := Lib.hid hux
  have HLX := Lib.hid (show ux < 18446744073709551616 by rw [hux]; exact u64N_lt _)
  clear hux
  by_cases h1 : x < (-128)
  · have e1 : decide (x < (-128)) = true := by simp; omega
    have HNO := Lib.hid (show fitsB ⟨p, o, x, y⟩ (formN (⟨p, o, x, y⟩ : RW).op) = false by rw [HFI.out]; unfold fitsB; simp; try omega)
    clear h1
    go_enter Try.func26, Try.ntmps26
    go_upto_region 4 with fail
    generalize hW : (w.alloc (.cells #[.int .i64 p, .int .u8 (o : Nat), .int .i64 x, .int .i64 y] 36)).alloc (.cells #[.int .u8 (o : Nat)] 5) = W at *
    clear hW HKA
    obtain ⟨⟨c0, c1, c2, c3⟩, _, hgW⟩ := HK2.out.box
    go_wp2_with fail
    refine (HFM.out _).mono ?_
    rintro e w' ⟨rfl, rfl⟩
    go_wp2_with fail
    go_ret2
    exact OneR.no HNO.out HB2.out
  by_cases h2 : 127 < x
  · have e1 : decide (x < (-128)) = false := by simp; omega
    have e2 : decide (127 < x) = true := by simp; omega
    have HNO := Lib.hid (show fitsB ⟨p, o, x, y⟩ (formN (⟨p, o, x, y⟩ : RW).op) = false by rw [HFI.out]; unfold fitsB; simp; try omega)
    clear h1 h2
    go_enter Try.func26, Try.ntmps26
    go_upto_region 4 with fail
    generalize hW : (w.alloc (.cells #[.int .i64 p, .int .u8 (o : Nat), .int .i64 x, .int .i64 y] 36)).alloc (.cells #[.int .u8 (o : Nat)] 5) = W at *
    clear hW HKA
    obtain ⟨⟨c0, c1, c2, c3⟩, _, hgW⟩ := HK2.out.box
    go_wp2_with fail
    refine (HFM.out _).mono ?_
    rintro e w' ⟨rfl, rfl⟩
    go_wp2_with fail
    go_ret2
    exact OneR.no HNO.out HB2.out
  have e1 : decide (x < (-128)) = false := by simp; omega
  have e2 : decide (127 < x) = false := by simp; omega
  go_enter Try.func26, Try.ntmps26
  go_upto_region 4 with fail
  generalize hW : (w.alloc (.cells #[.int .i64 p, .int .u8 (o : Nat), .int .i64 x, .int .i64 y] 36)).alloc (.cells #[.int .u8 (o : Nat)] 5) = W at *
  clear hW HKA
  obtain ⟨⟨c0, c1, c2, c3⟩, _, hgW⟩ := HK2.out.box
  go_wp2_with fail
  refine (HFM.out _).mono ?_
  rintro e w' ⟨rfl, rfl⟩
  go_wp2_with fail
  refine (refPut_any _ _ 1 1 [UInt8.ofNat o] ux 1 HS2.out (by decide) HLX.out (by decide) (by decide)).mono ?_
  rintro e w6 ⟨v6, m6, rfl, ho6, hb6⟩
  obtain ⟨a6, c6, rfl, hs6, hc6⟩ := Sl.ofOwn ho6
  have HO6 := Lib.hid ho6
  have HW6 := Lib.hid hb6
  have HS6 := Lib.hid hs6
  have HB6 := Lib.hid (HB2.out.trans (hb6.mono HB2.out.size))
  have HK6 := Lib.hid (HK2.out.below hb6)
  clear ho6 hs6 hb6 c0 c1 c2 c3 hgW
  obtain ⟨⟨c0, c1, c2, c3⟩, _, hgW⟩ := HK6.out.box
  go_wp2_with fail
  refine (HFM.out _).mono ?_
  rintro e w' ⟨rfl, rfl⟩
  by_cases hy : y = 0
  · have ey : (y == 0) = true := by simp [hy]
    have HYS := Lib.hid (show fitsB ⟨p, o, x, y⟩ (formN (⟨p, o, x, y⟩ : RW).op) = true by rw [HFI.out]; unfold fitsB; simp [hy]; omega)
    have HEN := Lib.hid (show encOne ⟨p, o, x, y⟩ = [UInt8.ofNat o] ++ putB ux 1 by rw [encE p o x y (by rw [show formN o = 3 from HFI.out]; decide) (by rw [show formN o = 3 from HFI.out]; decide), show formN o = 3 from HFI.out, HUX.out]; rfl)
    clear hy
    go_wp2_with fail
    go_quiet (fail)
    go_wp2_with fail
    go_ret2
    exact ⟨a6, m6, c6, _, by first | (rw [HYS.out]; done) | (rw [HYS.out]; rfl), HS6.out.below (bdrewN (Below.refl _ _) _), hc6, fun _ => HEN.out.symm, bdrewN HB6.out _⟩
  · have ey : (y == 0) = false := by simp [hy]
    have HNO := Lib.hid (show fitsB ⟨p, o, x, y⟩ (formN (⟨p, o, x, y⟩ : RW).op) = false by rw [HFI.out]; unfold fitsB; simp [hy])
    clear hy
    go_wp2_with fail
    go_quiet (fail)
    go_wp2_with fail
    go_ret2
    exact ⟨a6, m6, c6, _, by first | (rw [HNO.out]; done) | (rw [HNO.out]; rfl), HS6.out.below (bdrewN (Below.refl _ _) _), hc6, (fun h => by rw [HNO.out] at h; cases h), bdrewN HB6.out _⟩
set_option maxRecDepth 100000 in
set_option maxHeartbeats 8000000 in
theorem refone_4 (w : World) (p : Int) (o : Nat) (x y : Int) (hop : o < 256) (hf : formN o = 4) : Calls Try.prog 26 #[.agg #[.int .i64 p, .int .u8 (o : Nat), .int .i64 x, .int .i64 y]] w (OneR ⟨p, o, x, y⟩ w) := by
  have HFM := Lib.hid (fun w' => refForm_any w' o hop)
  rw [hf] at HFM
  have HFI : Hid (formN (⟨p, o, x, y⟩ : RW).op = 4) := Lib.hid hf
  have HOB := Lib.hid (encB_nat o hop)
  have HKA := Lib.hid (show RBlk (w.alloc (.cells #[.int .i64 p, .int .u8 (o : Nat), .int .i64 x, .int .i64 y] 36)) w.heap.size p o x y from heap_alloc_last w _)
  have HS2 := Lib.hid (show Sl encB ((w.alloc (.cells #[.int .i64 p, .int .u8 (o : Nat), .int .i64 x, .int .i64 y] 36)).alloc (.cells #[.int .u8 (o : Nat)] 5)) (some ⟨w.heap.size + 1, 0, none⟩) 1 [UInt8.ofNat o] by
    have h := Sl.lit (enc := encB) (xs := [UInt8.ofNat o]) (C := #[.int .u8 (o : Nat)]) (heap_alloc_last (w.alloc (.cells #[.int .i64 p, .int .u8 (o : Nat), .int .i64 x, .int .i64 y] 36)) (.cells #[.int .u8 (o : Nat)] 5)) (by rw [HOB.out]; rfl) rfl
    simpa using h)
  have HB2 := Lib.hid (show Below w.heap.size w ((w.alloc (.cells #[.int .i64 p, .int .u8 (o : Nat), .int .i64 x, .int .i64 y] 36)).alloc (.cells #[.int .u8 (o : Nat)] 5)) from ((Below.refl _ _).alloc (Nat.le_refl _) _).alloc (by simp) _)
  have HK2 := Lib.hid (HKA.out.below ((Below.refl (w.alloc (.cells #[.int .i64 p, .int .u8 (o : Nat), .int .i64 x, .int .i64 y] 36)).heap.size (w.alloc (.cells #[.int .i64 p, .int .u8 (o : Nat), .int .i64 x, .int .i64 y] 36))).alloc (Nat.le_refl _) (.cells #[.int .u8 (o : Nat)] 5)))
  obtain ⟨ux, hux⟩ : ∃ u, u = u64N x := ⟨_, rfl⟩
  have wx : IntKind.u64.wrap x = (ux : Int) := by rw [hux]; exact u64N_wrap x
  have HUX := Lib.hid hux
  have HLX := Lib.hid (show ux < 18446744073709551616 by rw [hux]; exact u64N_lt _)
  clear hux
  by_cases h1 : x < (-32768)
  · have e1 : decide (x < (-32768)) = true := by simp; omega
    have HNO := Lib.hid (show fitsB ⟨p, o, x, y⟩ (formN (⟨p, o, x, y⟩ : RW).op) = false by rw [HFI.out]; unfold fitsB; simp; try omega)
    clear h1
    go_enter Try.func26, Try.ntmps26
    go_upto_region 4 with fail
    generalize hW : (w.alloc (.cells #[.int .i64 p, .int .u8 (o : Nat), .int .i64 x, .int .i64 y] 36)).alloc (.cells #[.int .u8 (o : Nat)] 5) = W at *
    clear hW HKA
    obtain ⟨⟨c0, c1, c2, c3⟩, _, hgW⟩ := HK2.out.box
    go_wp2_with fail
    refine (HFM.out _).mono ?_
    rintro e w' ⟨rfl, rfl⟩
    go_wp2_with fail
    go_ret2
    exact OneR.no HNO.out HB2.out
  by_cases h2 : 32767 < x
  · have e1 : decide (x < (-32768)) = false := by simp; omega
    have e2 : decide (32767 < x) = true := by simp; omega
    have HNO := Lib.hid (show fitsB ⟨p, o, x, y⟩ (formN (⟨p, o, x, y⟩ : RW).op) = false by rw [HFI.out]; unfold fitsB; simp; try omega)
    clear h1 h2
    go_enter Try.func26, Try.ntmps26
    go_upto_region 4 with fail
    generalize hW : (w.alloc (.cells #[.int .i64 p, .int .u8 (o : Nat), .int .i64 x, .int .i64 y] 36)).alloc (.cells #[.int .u8 (o : Nat)] 5) = W at *
    clear hW HKA
    obtain ⟨⟨c0, c1, c2, c3⟩, _, hgW⟩ := HK2.out.box
    go_wp2_with fail
    refine (HFM.out _).mono ?_
    rintro e w' ⟨rfl, rfl⟩
    go_wp2_with fail
    go_ret2
    exact OneR.no HNO.out HB2.out
  have e1 : decide (x < (-32768)) = false := by simp; omega
  have e2 : decide (32767 < x) = false := by simp; omega
  go_enter Try.func26, Try.ntmps26
  go_upto_region 4 with fail
  generalize hW : (w.alloc (.cells #[.int .i64 p, .int .u8 (o : Nat), .int .i64 x, .int .i64 y] 36)).alloc (.cells #[.int .u8 (o : Nat)] 5) = W at *
  clear hW HKA
  obtain ⟨⟨c0, c1, c2, c3⟩, _, hgW⟩ := HK2.out.box
  go_wp2_with fail
  refine (HFM.out _).mono ?_
  rintro e w' ⟨rfl, rfl⟩
  go_wp2_with fail
  refine (refPut_any _ _ 1 1 [UInt8.ofNat o] ux 2 HS2.out (by decide) HLX.out (by decide) (by decide)).mono ?_
  rintro e w6 ⟨v6, m6, rfl, ho6, hb6⟩
  obtain ⟨a6, c6, rfl, hs6, hc6⟩ := Sl.ofOwn ho6
  have HO6 := Lib.hid ho6
  have HW6 := Lib.hid hb6
  have HS6 := Lib.hid hs6
  have HB6 := Lib.hid (HB2.out.trans (hb6.mono HB2.out.size))
  have HK6 := Lib.hid (HK2.out.below hb6)
  clear ho6 hs6 hb6 c0 c1 c2 c3 hgW
  obtain ⟨⟨c0, c1, c2, c3⟩, _, hgW⟩ := HK6.out.box
  go_wp2_with fail
  refine (HFM.out _).mono ?_
  rintro e w' ⟨rfl, rfl⟩
  by_cases hy : y = 0
  · have ey : (y == 0) = true := by simp [hy]
    have HYS := Lib.hid (show fitsB ⟨p, o, x, y⟩ (formN (⟨p, o, x, y⟩ : RW).op) = true by rw [HFI.out]; unfold fitsB; simp [hy]; omega)
    have HEN := Lib.hid (show encOne ⟨p, o, x, y⟩ = [UInt8.ofNat o] ++ putB ux 2 by rw [encE p o x y (by rw [show formN o = 4 from HFI.out]; decide) (by rw [show formN o = 4 from HFI.out]; decide), show formN o = 4 from HFI.out, HUX.out]; rfl)
    clear hy
    go_wp2_with fail
    go_quiet (fail)
    go_wp2_with fail
    go_ret2
    exact ⟨a6, m6, c6, _, by first | (rw [HYS.out]; done) | (rw [HYS.out]; rfl), HS6.out.below (bdrewN (Below.refl _ _) _), hc6, fun _ => HEN.out.symm, bdrewN HB6.out _⟩
  · have ey : (y == 0) = false := by simp [hy]
    have HNO := Lib.hid (show fitsB ⟨p, o, x, y⟩ (formN (⟨p, o, x, y⟩ : RW).op) = false by rw [HFI.out]; unfold fitsB; simp [hy])
    clear hy
    go_wp2_with fail
    go_quiet (fail)
    go_wp2_with fail
    go_ret2
    exact ⟨a6, m6, c6, _, by first | (rw [HNO.out]; done) | (rw [HNO.out]; rfl), HS6.out.below (bdrewN (Below.refl _ _) _), hc6, (fun h => by rw [HNO.out] at h; cases h), bdrewN HB6.out _⟩
set_option maxRecDepth 100000 in
set_option maxHeartbeats 8000000 in
theorem refone_5 (w : World) (p : Int) (o : Nat) (x y : Int) (hop : o < 256) (hf : formN o = 5) : Calls Try.prog 26 #[.agg #[.int .i64 p, .int .u8 (o : Nat), .int .i64 x, .int .i64 y]] w (OneR ⟨p, o, x, y⟩ w) := by
  have HFM := Lib.hid (fun w' => refForm_any w' o hop)
  rw [hf] at HFM
  have HFI : Hid (formN (⟨p, o, x, y⟩ : RW).op = 5) := Lib.hid hf
  have HOB := Lib.hid (encB_nat o hop)
  have HKA := Lib.hid (show RBlk (w.alloc (.cells #[.int .i64 p, .int .u8 (o : Nat), .int .i64 x, .int .i64 y] 36)) w.heap.size p o x y from heap_alloc_last w _)
  have HS2 := Lib.hid (show Sl encB ((w.alloc (.cells #[.int .i64 p, .int .u8 (o : Nat), .int .i64 x, .int .i64 y] 36)).alloc (.cells #[.int .u8 (o : Nat)] 5)) (some ⟨w.heap.size + 1, 0, none⟩) 1 [UInt8.ofNat o] by
    have h := Sl.lit (enc := encB) (xs := [UInt8.ofNat o]) (C := #[.int .u8 (o : Nat)]) (heap_alloc_last (w.alloc (.cells #[.int .i64 p, .int .u8 (o : Nat), .int .i64 x, .int .i64 y] 36)) (.cells #[.int .u8 (o : Nat)] 5)) (by rw [HOB.out]; rfl) rfl
    simpa using h)
  have HB2 := Lib.hid (show Below w.heap.size w ((w.alloc (.cells #[.int .i64 p, .int .u8 (o : Nat), .int .i64 x, .int .i64 y] 36)).alloc (.cells #[.int .u8 (o : Nat)] 5)) from ((Below.refl _ _).alloc (Nat.le_refl _) _).alloc (by simp) _)
  have HK2 := Lib.hid (HKA.out.below ((Below.refl (w.alloc (.cells #[.int .i64 p, .int .u8 (o : Nat), .int .i64 x, .int .i64 y] 36)).heap.size (w.alloc (.cells #[.int .i64 p, .int .u8 (o : Nat), .int .i64 x, .int .i64 y] 36))).alloc (Nat.le_refl _) (.cells #[.int .u8 (o : Nat)] 5)))
  obtain ⟨ux, hux⟩ : ∃ u, u = u64N x := ⟨_, rfl⟩
  have wx : IntKind.u64.wrap x = (ux : Int) := by rw [hux]; exact u64N_wrap x
  have HUX := Lib.hid hux
  have HLX := Lib.hid (show ux < 18446744073709551616 by rw [hux]; exact u64N_lt _)
  clear hux
  by_cases h1 : x < 0
  · have e1 : decide (x < 0) = true := by simp; omega
    have HNO := Lib.hid (show fitsB ⟨p, o, x, y⟩ (formN (⟨p, o, x, y⟩ : RW).op) = false by rw [HFI.out]; unfold fitsB; simp; try omega)
    clear h1
    go_enter Try.func26, Try.ntmps26
    go_upto_region 4 with fail
    generalize hW : (w.alloc (.cells #[.int .i64 p, .int .u8 (o : Nat), .int .i64 x, .int .i64 y] 36)).alloc (.cells #[.int .u8 (o : Nat)] 5) = W at *
    clear hW HKA
    obtain ⟨⟨c0, c1, c2, c3⟩, _, hgW⟩ := HK2.out.box
    go_wp2_with fail
    refine (HFM.out _).mono ?_
    rintro e w' ⟨rfl, rfl⟩
    go_wp2_with fail
    go_ret2
    exact OneR.no HNO.out HB2.out
  by_cases h2 : 255 < x
  · have e1 : decide (x < 0) = false := by simp; omega
    have e2 : decide (255 < x) = true := by simp; omega
    have HNO := Lib.hid (show fitsB ⟨p, o, x, y⟩ (formN (⟨p, o, x, y⟩ : RW).op) = false by rw [HFI.out]; unfold fitsB; simp; try omega)
    clear h1 h2
    go_enter Try.func26, Try.ntmps26
    go_upto_region 4 with fail
    generalize hW : (w.alloc (.cells #[.int .i64 p, .int .u8 (o : Nat), .int .i64 x, .int .i64 y] 36)).alloc (.cells #[.int .u8 (o : Nat)] 5) = W at *
    clear hW HKA
    obtain ⟨⟨c0, c1, c2, c3⟩, _, hgW⟩ := HK2.out.box
    go_wp2_with fail
    refine (HFM.out _).mono ?_
    rintro e w' ⟨rfl, rfl⟩
    go_wp2_with fail
    go_ret2
    exact OneR.no HNO.out HB2.out
  have e1 : decide (x < 0) = false := by simp; omega
  have e2 : decide (255 < x) = false := by simp; omega
  go_enter Try.func26, Try.ntmps26
  go_upto_region 4 with fail
  generalize hW : (w.alloc (.cells #[.int .i64 p, .int .u8 (o : Nat), .int .i64 x, .int .i64 y] 36)).alloc (.cells #[.int .u8 (o : Nat)] 5) = W at *
  clear hW HKA
  obtain ⟨⟨c0, c1, c2, c3⟩, _, hgW⟩ := HK2.out.box
  go_wp2_with fail
  refine (HFM.out _).mono ?_
  rintro e w' ⟨rfl, rfl⟩
  go_wp2_with fail
  refine (refPut_any _ _ 1 1 [UInt8.ofNat o] ux 1 HS2.out (by decide) HLX.out (by decide) (by decide)).mono ?_
  rintro e w6 ⟨v6, m6, rfl, ho6, hb6⟩
  obtain ⟨a6, c6, rfl, hs6, hc6⟩ := Sl.ofOwn ho6
  have HO6 := Lib.hid ho6
  have HW6 := Lib.hid hb6
  have HS6 := Lib.hid hs6
  have HB6 := Lib.hid (HB2.out.trans (hb6.mono HB2.out.size))
  have HK6 := Lib.hid (HK2.out.below hb6)
  clear ho6 hs6 hb6 c0 c1 c2 c3 hgW
  obtain ⟨⟨c0, c1, c2, c3⟩, _, hgW⟩ := HK6.out.box
  go_wp2_with fail
  refine (HFM.out _).mono ?_
  rintro e w' ⟨rfl, rfl⟩
  by_cases hy : y = 0
  · have ey : (y == 0) = true := by simp [hy]
    have HYS := Lib.hid (show fitsB ⟨p, o, x, y⟩ (formN (⟨p, o, x, y⟩ : RW).op) = true by rw [HFI.out]; unfold fitsB; simp [hy]; omega)
    have HEN := Lib.hid (show encOne ⟨p, o, x, y⟩ = [UInt8.ofNat o] ++ putB ux 1 by rw [encE p o x y (by rw [show formN o = 5 from HFI.out]; decide) (by rw [show formN o = 5 from HFI.out]; decide), show formN o = 5 from HFI.out, HUX.out]; rfl)
    clear hy
    go_wp2_with fail
    go_quiet (fail)
    go_wp2_with fail
    go_ret2
    exact ⟨a6, m6, c6, _, by first | (rw [HYS.out]; done) | (rw [HYS.out]; rfl), HS6.out.below (bdrewN (Below.refl _ _) _), hc6, fun _ => HEN.out.symm, bdrewN HB6.out _⟩
  · have ey : (y == 0) = false := by simp [hy]
    have HNO := Lib.hid (show fitsB ⟨p, o, x, y⟩ (formN (⟨p, o, x, y⟩ : RW).op) = false by rw [HFI.out]; unfold fitsB; simp [hy])
    clear hy
    go_wp2_with fail
    go_quiet (fail)
    go_wp2_with fail
    go_ret2
    exact ⟨a6, m6, c6, _, by first | (rw [HNO.out]; done) | (rw [HNO.out]; rfl), HS6.out.below (bdrewN (Below.refl _ _) _), hc6, (fun h => by rw [HNO.out] at h; cases h), bdrewN HB6.out _⟩
set_option maxRecDepth 100000 in
set_option maxHeartbeats 8000000 in
theorem refone_6 (w : World) (p : Int) (o : Nat) (x y : Int) (hop : o < 256) (hf : formN o = 6) : Calls Try.prog 26 #[.agg #[.int .i64 p, .int .u8 (o : Nat), .int .i64 x, .int .i64 y]] w (OneR ⟨p, o, x, y⟩ w) := by
  have HFM := Lib.hid (fun w' => refForm_any w' o hop)
  rw [hf] at HFM
  have HFI : Hid (formN (⟨p, o, x, y⟩ : RW).op = 6) := Lib.hid hf
  have HOB := Lib.hid (encB_nat o hop)
  have HKA := Lib.hid (show RBlk (w.alloc (.cells #[.int .i64 p, .int .u8 (o : Nat), .int .i64 x, .int .i64 y] 36)) w.heap.size p o x y from heap_alloc_last w _)
  have HS2 := Lib.hid (show Sl encB ((w.alloc (.cells #[.int .i64 p, .int .u8 (o : Nat), .int .i64 x, .int .i64 y] 36)).alloc (.cells #[.int .u8 (o : Nat)] 5)) (some ⟨w.heap.size + 1, 0, none⟩) 1 [UInt8.ofNat o] by
    have h := Sl.lit (enc := encB) (xs := [UInt8.ofNat o]) (C := #[.int .u8 (o : Nat)]) (heap_alloc_last (w.alloc (.cells #[.int .i64 p, .int .u8 (o : Nat), .int .i64 x, .int .i64 y] 36)) (.cells #[.int .u8 (o : Nat)] 5)) (by rw [HOB.out]; rfl) rfl
    simpa using h)
  have HB2 := Lib.hid (show Below w.heap.size w ((w.alloc (.cells #[.int .i64 p, .int .u8 (o : Nat), .int .i64 x, .int .i64 y] 36)).alloc (.cells #[.int .u8 (o : Nat)] 5)) from ((Below.refl _ _).alloc (Nat.le_refl _) _).alloc (by simp) _)
  have HK2 := Lib.hid (HKA.out.below ((Below.refl (w.alloc (.cells #[.int .i64 p, .int .u8 (o : Nat), .int .i64 x, .int .i64 y] 36)).heap.size (w.alloc (.cells #[.int .i64 p, .int .u8 (o : Nat), .int .i64 x, .int .i64 y] 36))).alloc (Nat.le_refl _) (.cells #[.int .u8 (o : Nat)] 5)))
  obtain ⟨ux, hux⟩ : ∃ u, u = u64N x := ⟨_, rfl⟩
  have wx : IntKind.u64.wrap x = (ux : Int) := by rw [hux]; exact u64N_wrap x
  have HUX := Lib.hid hux
  have HLX := Lib.hid (show ux < 18446744073709551616 by rw [hux]; exact u64N_lt _)
  clear hux
  by_cases h1 : x < 0
  · have e1 : decide (x < 0) = true := by simp; omega
    have HNO := Lib.hid (show fitsB ⟨p, o, x, y⟩ (formN (⟨p, o, x, y⟩ : RW).op) = false by rw [HFI.out]; unfold fitsB; simp; try omega)
    clear h1
    go_enter Try.func26, Try.ntmps26
    go_upto_region 4 with fail
    generalize hW : (w.alloc (.cells #[.int .i64 p, .int .u8 (o : Nat), .int .i64 x, .int .i64 y] 36)).alloc (.cells #[.int .u8 (o : Nat)] 5) = W at *
    clear hW HKA
    obtain ⟨⟨c0, c1, c2, c3⟩, _, hgW⟩ := HK2.out.box
    go_wp2_with fail
    refine (HFM.out _).mono ?_
    rintro e w' ⟨rfl, rfl⟩
    go_wp2_with fail
    go_ret2
    exact OneR.no HNO.out HB2.out
  by_cases h2 : 65535 < x
  · have e1 : decide (x < 0) = false := by simp; omega
    have e2 : decide (65535 < x) = true := by simp; omega
    have HNO := Lib.hid (show fitsB ⟨p, o, x, y⟩ (formN (⟨p, o, x, y⟩ : RW).op) = false by rw [HFI.out]; unfold fitsB; simp; try omega)
    clear h1 h2
    go_enter Try.func26, Try.ntmps26
    go_upto_region 4 with fail
    generalize hW : (w.alloc (.cells #[.int .i64 p, .int .u8 (o : Nat), .int .i64 x, .int .i64 y] 36)).alloc (.cells #[.int .u8 (o : Nat)] 5) = W at *
    clear hW HKA
    obtain ⟨⟨c0, c1, c2, c3⟩, _, hgW⟩ := HK2.out.box
    go_wp2_with fail
    refine (HFM.out _).mono ?_
    rintro e w' ⟨rfl, rfl⟩
    go_wp2_with fail
    go_ret2
    exact OneR.no HNO.out HB2.out
  have e1 : decide (x < 0) = false := by simp; omega
  have e2 : decide (65535 < x) = false := by simp; omega
  go_enter Try.func26, Try.ntmps26
  go_upto_region 4 with fail
  generalize hW : (w.alloc (.cells #[.int .i64 p, .int .u8 (o : Nat), .int .i64 x, .int .i64 y] 36)).alloc (.cells #[.int .u8 (o : Nat)] 5) = W at *
  clear hW HKA
  obtain ⟨⟨c0, c1, c2, c3⟩, _, hgW⟩ := HK2.out.box
  go_wp2_with fail
  refine (HFM.out _).mono ?_
  rintro e w' ⟨rfl, rfl⟩
  go_wp2_with fail
  refine (refPut_any _ _ 1 1 [UInt8.ofNat o] ux 2 HS2.out (by decide) HLX.out (by decide) (by decide)).mono ?_
  rintro e w6 ⟨v6, m6, rfl, ho6, hb6⟩
  obtain ⟨a6, c6, rfl, hs6, hc6⟩ := Sl.ofOwn ho6
  have HO6 := Lib.hid ho6
  have HW6 := Lib.hid hb6
  have HS6 := Lib.hid hs6
  have HB6 := Lib.hid (HB2.out.trans (hb6.mono HB2.out.size))
  have HK6 := Lib.hid (HK2.out.below hb6)
  clear ho6 hs6 hb6 c0 c1 c2 c3 hgW
  obtain ⟨⟨c0, c1, c2, c3⟩, _, hgW⟩ := HK6.out.box
  go_wp2_with fail
  refine (HFM.out _).mono ?_
  rintro e w' ⟨rfl, rfl⟩
  by_cases hy : y = 0
  · have ey : (y == 0) = true := by simp [hy]
    have HYS := Lib.hid (show fitsB ⟨p, o, x, y⟩ (formN (⟨p, o, x, y⟩ : RW).op) = true by rw [HFI.out]; unfold fitsB; simp [hy]; omega)
    have HEN := Lib.hid (show encOne ⟨p, o, x, y⟩ = [UInt8.ofNat o] ++ putB ux 2 by rw [encE p o x y (by rw [show formN o = 6 from HFI.out]; decide) (by rw [show formN o = 6 from HFI.out]; decide), show formN o = 6 from HFI.out, HUX.out]; rfl)
    clear hy
    go_wp2_with fail
    go_quiet (fail)
    go_wp2_with fail
    go_ret2
    exact ⟨a6, m6, c6, _, by first | (rw [HYS.out]; done) | (rw [HYS.out]; rfl), HS6.out.below (bdrewN (Below.refl _ _) _), hc6, fun _ => HEN.out.symm, bdrewN HB6.out _⟩
  · have ey : (y == 0) = false := by simp [hy]
    have HNO := Lib.hid (show fitsB ⟨p, o, x, y⟩ (formN (⟨p, o, x, y⟩ : RW).op) = false by rw [HFI.out]; unfold fitsB; simp [hy])
    clear hy
    go_wp2_with fail
    go_quiet (fail)
    go_wp2_with fail
    go_ret2
    exact ⟨a6, m6, c6, _, by first | (rw [HNO.out]; done) | (rw [HNO.out]; rfl), HS6.out.below (bdrewN (Below.refl _ _) _), hc6, (fun h => by rw [HNO.out] at h; cases h), bdrewN HB6.out _⟩
set_option maxRecDepth 100000 in
set_option maxHeartbeats 8000000 in
theorem refone_9 (w : World) (p : Int) (o : Nat) (x y : Int) (hop : o < 256) (hf : formN o = 9) : Calls Try.prog 26 #[.agg #[.int .i64 p, .int .u8 (o : Nat), .int .i64 x, .int .i64 y]] w (OneR ⟨p, o, x, y⟩ w) := by
  have HFM := Lib.hid (fun w' => refForm_any w' o hop)
  rw [hf] at HFM
  have HFI : Hid (formN (⟨p, o, x, y⟩ : RW).op = 9) := Lib.hid hf
  have HOB := Lib.hid (encB_nat o hop)
  have HKA := Lib.hid (show RBlk (w.alloc (.cells #[.int .i64 p, .int .u8 (o : Nat), .int .i64 x, .int .i64 y] 36)) w.heap.size p o x y from heap_alloc_last w _)
  have HS2 := Lib.hid (show Sl encB ((w.alloc (.cells #[.int .i64 p, .int .u8 (o : Nat), .int .i64 x, .int .i64 y] 36)).alloc (.cells #[.int .u8 (o : Nat)] 5)) (some ⟨w.heap.size + 1, 0, none⟩) 1 [UInt8.ofNat o] by
    have h := Sl.lit (enc := encB) (xs := [UInt8.ofNat o]) (C := #[.int .u8 (o : Nat)]) (heap_alloc_last (w.alloc (.cells #[.int .i64 p, .int .u8 (o : Nat), .int .i64 x, .int .i64 y] 36)) (.cells #[.int .u8 (o : Nat)] 5)) (by rw [HOB.out]; rfl) rfl
    simpa using h)
  have HB2 := Lib.hid (show Below w.heap.size w ((w.alloc (.cells #[.int .i64 p, .int .u8 (o : Nat), .int .i64 x, .int .i64 y] 36)).alloc (.cells #[.int .u8 (o : Nat)] 5)) from ((Below.refl _ _).alloc (Nat.le_refl _) _).alloc (by simp) _)
  have HK2 := Lib.hid (HKA.out.below ((Below.refl (w.alloc (.cells #[.int .i64 p, .int .u8 (o : Nat), .int .i64 x, .int .i64 y] 36)).heap.size (w.alloc (.cells #[.int .i64 p, .int .u8 (o : Nat), .int .i64 x, .int .i64 y] 36))).alloc (Nat.le_refl _) (.cells #[.int .u8 (o : Nat)] 5)))
  by_cases h89 : x = 8 ∨ x = 10
  · have ed : (x != 8) = false ∨ ((x != 8) = true ∧ (x != 10) = false) := by
      rcases h89 with rfl | rfl
      · exact .inl rfl
      · exact .inr ⟨rfl, rfl⟩
    have HXX := Lib.hid h89
    have e1 : decide (x < 0) = false := by simp; omega
    have e2 : decide (255 < x) = false := by simp; omega
    obtain ⟨ux, hux⟩ : ∃ u, u = u64N x := ⟨_, rfl⟩
    have wx : IntKind.u64.wrap x = (ux : Int) := by rw [hux]; exact u64N_wrap x
    have HUX := Lib.hid hux
    have HLX := Lib.hid (show ux < 18446744073709551616 by rw [hux]; exact u64N_lt _)
    clear hux
    clear h89
    rcases ed with e8 | ⟨e8, e10⟩
    all_goals
      go_enter Try.func26, Try.ntmps26
      go_upto_region 4 with fail
      generalize hW : (w.alloc (.cells #[.int .i64 p, .int .u8 (o : Nat), .int .i64 x, .int .i64 y] 36)).alloc (.cells #[.int .u8 (o : Nat)] 5) = W at *
      clear hW HKA
      obtain ⟨⟨c0, c1, c2, c3⟩, _, hgW⟩ := HK2.out.box
      go_wp2_with fail
      refine (HFM.out _).mono ?_
      rintro e w' ⟨rfl, rfl⟩
      go_wp2_with fail
      refine (refPut_any _ _ 1 1 [UInt8.ofNat o] ux 1 HS2.out (by decide) HLX.out (by decide) (by decide)).mono ?_
      rintro e w6 ⟨v6, m6, rfl, ho6, hb6⟩
      obtain ⟨a6, c6, rfl, hs6, hc6⟩ := Sl.ofOwn ho6
      have HO6 := Lib.hid ho6
      have HW6 := Lib.hid hb6
      have HS6 := Lib.hid hs6
      have HB6 := Lib.hid (HB2.out.trans (hb6.mono HB2.out.size))
      have HK6 := Lib.hid (HK2.out.below hb6)
      clear ho6 hs6 hb6 c0 c1 c2 c3 hgW
      obtain ⟨⟨c0, c1, c2, c3⟩, _, hgW⟩ := HK6.out.box
      go_wp2_with fail
      refine (HFM.out _).mono ?_
      rintro e w' ⟨rfl, rfl⟩
      by_cases hy : y = 0
      · have ey : (y == 0) = true := by simp [hy]
        have HYS := Lib.hid (show fitsB ⟨p, o, x, y⟩ (formN (⟨p, o, x, y⟩ : RW).op) = true by rw [HFI.out]; unfold fitsB; simp [hy]; exact HXX.out)
        have HEN := Lib.hid (show encOne ⟨p, o, x, y⟩ = [UInt8.ofNat o] ++ putB ux 1 by rw [encE p o x y (by rw [show formN o = 9 from HFI.out]; decide) (by rw [show formN o = 9 from HFI.out]; decide), show formN o = 9 from HFI.out, HUX.out]; rfl)
        clear hy
        go_wp2_with fail
        go_quiet (fail)
        go_wp2_with fail
        go_ret2
        exact ⟨a6, m6, c6, _, by first | (rw [HYS.out]; done) | (rw [HYS.out]; rfl), HS6.out.below (bdrewN (Below.refl _ _) _), hc6, fun _ => HEN.out.symm, bdrewN HB6.out _⟩
      · have ey : (y == 0) = false := by simp [hy]
        have HNO := Lib.hid (show fitsB ⟨p, o, x, y⟩ (formN (⟨p, o, x, y⟩ : RW).op) = false by rw [HFI.out]; unfold fitsB; simp [hy])
        clear hy
        go_wp2_with fail
        go_quiet (fail)
        go_wp2_with fail
        go_ret2
        exact ⟨a6, m6, c6, _, by first | (rw [HNO.out]; done) | (rw [HNO.out]; rfl), HS6.out.below (bdrewN (Below.refl _ _) _), hc6, (fun h => by rw [HNO.out] at h; cases h), bdrewN HB6.out _⟩
  · have e8 : (x != 8) = true := by simp; omega
    have e10 : (x != 10) = true := by simp; omega
    have HNO := Lib.hid (show fitsB ⟨p, o, x, y⟩ (formN (⟨p, o, x, y⟩ : RW).op) = false by rw [HFI.out]; unfold fitsB; simp; try omega)
    clear h89
    go_enter Try.func26, Try.ntmps26
    go_upto_region 4 with fail
    generalize hW : (w.alloc (.cells #[.int .i64 p, .int .u8 (o : Nat), .int .i64 x, .int .i64 y] 36)).alloc (.cells #[.int .u8 (o : Nat)] 5) = W at *
    clear hW HKA
    obtain ⟨⟨c0, c1, c2, c3⟩, _, hgW⟩ := HK2.out.box
    go_wp2_with fail
    refine (HFM.out _).mono ?_
    rintro e w' ⟨rfl, rfl⟩
    go_wp2_with fail
    go_ret2
    exact OneR.no HNO.out HB2.out
set_option maxRecDepth 100000 in
set_option maxHeartbeats 8000000 in
theorem refone_8 (w : World) (p : Int) (o : Nat) (x y : Int) (hop : o < 256) (hf : formN o = 8) : Calls Try.prog 26 #[.agg #[.int .i64 p, .int .u8 (o : Nat), .int .i64 x, .int .i64 y]] w (OneR ⟨p, o, x, y⟩ w) := by
  have HFM := Lib.hid (fun w' => refForm_any w' o hop)
  rw [hf] at HFM
  have HFI : Hid (formN (⟨p, o, x, y⟩ : RW).op = 8) := Lib.hid hf
  have HOB := Lib.hid (encB_nat o hop)
  have HKA := Lib.hid (show RBlk (w.alloc (.cells #[.int .i64 p, .int .u8 (o : Nat), .int .i64 x, .int .i64 y] 36)) w.heap.size p o x y from heap_alloc_last w _)
  have HS2 := Lib.hid (show Sl encB ((w.alloc (.cells #[.int .i64 p, .int .u8 (o : Nat), .int .i64 x, .int .i64 y] 36)).alloc (.cells #[.int .u8 (o : Nat)] 5)) (some ⟨w.heap.size + 1, 0, none⟩) 1 [UInt8.ofNat o] by
    have h := Sl.lit (enc := encB) (xs := [UInt8.ofNat o]) (C := #[.int .u8 (o : Nat)]) (heap_alloc_last (w.alloc (.cells #[.int .i64 p, .int .u8 (o : Nat), .int .i64 x, .int .i64 y] 36)) (.cells #[.int .u8 (o : Nat)] 5)) (by rw [HOB.out]; rfl) rfl
    simpa using h)
  have HB2 := Lib.hid (show Below w.heap.size w ((w.alloc (.cells #[.int .i64 p, .int .u8 (o : Nat), .int .i64 x, .int .i64 y] 36)).alloc (.cells #[.int .u8 (o : Nat)] 5)) from ((Below.refl _ _).alloc (Nat.le_refl _) _).alloc (by simp) _)
  have HK2 := Lib.hid (HKA.out.below ((Below.refl (w.alloc (.cells #[.int .i64 p, .int .u8 (o : Nat), .int .i64 x, .int .i64 y] 36)).heap.size (w.alloc (.cells #[.int .i64 p, .int .u8 (o : Nat), .int .i64 x, .int .i64 y] 36))).alloc (Nat.le_refl _) (.cells #[.int .u8 (o : Nat)] 5)))
  have HYB := Lib.hid (cell_put1 y)
  obtain ⟨ux, hux⟩ : ∃ u, u = u64N x := ⟨_, rfl⟩
  have wx : IntKind.u64.wrap x = (ux : Int) := by rw [hux]; exact u64N_wrap x
  have HUX := Lib.hid hux
  have HLX := Lib.hid (show ux < 18446744073709551616 by rw [hux]; exact u64N_lt _)
  clear hux
  by_cases h1 : x < 0
  · have e1 : decide (x < 0) = true := by simp; omega
    have HNO := Lib.hid (show fitsB ⟨p, o, x, y⟩ (formN (⟨p, o, x, y⟩ : RW).op) = false by rw [HFI.out]; unfold fitsB; simp; try omega)
    clear h1
    go_enter Try.func26, Try.ntmps26
    go_upto_region 4 with fail
    generalize hW : (w.alloc (.cells #[.int .i64 p, .int .u8 (o : Nat), .int .i64 x, .int .i64 y] 36)).alloc (.cells #[.int .u8 (o : Nat)] 5) = W at *
    clear hW HKA
    obtain ⟨⟨c0, c1, c2, c3⟩, _, hgW⟩ := HK2.out.box
    go_wp2_with fail
    refine (HFM.out _).mono ?_
    rintro e w' ⟨rfl, rfl⟩
    go_wp2_with fail
    go_ret2
    exact OneR.no HNO.out HB2.out
  by_cases h2 : 255 < x
  · have e1 : decide (x < 0) = false := by simp; omega
    have e2 : decide (255 < x) = true := by simp; omega
    have HNO := Lib.hid (show fitsB ⟨p, o, x, y⟩ (formN (⟨p, o, x, y⟩ : RW).op) = false by rw [HFI.out]; unfold fitsB; simp; try omega)
    clear h1 h2
    go_enter Try.func26, Try.ntmps26
    go_upto_region 4 with fail
    generalize hW : (w.alloc (.cells #[.int .i64 p, .int .u8 (o : Nat), .int .i64 x, .int .i64 y] 36)).alloc (.cells #[.int .u8 (o : Nat)] 5) = W at *
    clear hW HKA
    obtain ⟨⟨c0, c1, c2, c3⟩, _, hgW⟩ := HK2.out.box
    go_wp2_with fail
    refine (HFM.out _).mono ?_
    rintro e w' ⟨rfl, rfl⟩
    go_wp2_with fail
    go_ret2
    exact OneR.no HNO.out HB2.out
  have e1 : decide (x < 0) = false := by simp; omega
  have e2 : decide (255 < x) = false := by simp; omega
  go_enter Try.func26, Try.ntmps26
  go_upto_region 4 with fail
  generalize hW : (w.alloc (.cells #[.int .i64 p, .int .u8 (o : Nat), .int .i64 x, .int .i64 y] 36)).alloc (.cells #[.int .u8 (o : Nat)] 5) = W at *
  clear hW HKA
  obtain ⟨⟨c0, c1, c2, c3⟩, _, hgW⟩ := HK2.out.box
  go_wp2_with fail
  refine (HFM.out _).mono ?_
  rintro e w' ⟨rfl, rfl⟩
  go_wp2_with fail
  refine (refPut_any _ _ 1 1 [UInt8.ofNat o] ux 1 HS2.out (by decide) HLX.out (by decide) (by decide)).mono ?_
  rintro e w6 ⟨v6, m6, rfl, ho6, hb6⟩
  obtain ⟨a6, c6, rfl, hs6, hc6⟩ := Sl.ofOwn ho6
  have HO6 := Lib.hid ho6
  have HW6 := Lib.hid hb6
  have HS6 := Lib.hid hs6
  have HB6 := Lib.hid (HB2.out.trans (hb6.mono HB2.out.size))
  have HK6 := Lib.hid (HK2.out.below hb6)
  clear ho6 hs6 hb6 c0 c1 c2 c3 hgW
  obtain ⟨⟨c0, c1, c2, c3⟩, _, hgW⟩ := HK6.out.box
  go_wp2_with fail
  refine (HFM.out _).mono ?_
  rintro e w' ⟨rfl, rfl⟩
  have hm6 : m6 = 2 := by have h1 := HS6.out.1; rw [List.length_append, putB_length] at h1; exact h1.symm
  subst hm6
  have HEN := Lib.hid (show encOne ⟨p, o, x, y⟩ = [UInt8.ofNat o] ++ putB ux 1 ++ putB (u64N y) 1 by rw [enc8 p o x y HFI.out, HUX.out])
  by_cases y1 : y < -128
  · have e3 : decide (-128 ≤ y) = false := by simp; omega
    have HNO := Lib.hid (show fitsB ⟨p, o, x, y⟩ (formN (⟨p, o, x, y⟩ : RW).op) = false by rw [HFI.out]; unfold fitsB; simp; try omega)
    clear y1
    go_upto_region 22 with fail
    clear c0 c1 c2 c3 hgW
    obtain ⟨⟨c0, c1, c2, c3⟩, _, hgW⟩ := HK2.out.box
    have ld3 := fun w' (h : Below W.heap.size W w') => cellS_below h c3
    have hSw : Below W.heap.size W w6.drew := HW6.out.drew
    clear c0 c1 c2 c3 hgW
    refine wp_region_lexS (Below W.heap.size W) (.of [(0, true), (1, true), (2, true), (3, true), (6, true), (7, true), (8, true), (4, false), (5, false)] (.stir [(9, true), (10, true), (11, true), (12, true), (13, true), (14, true), (15, true)])) (by kernel_rfl) (by kernel_rfl) (fun c a d v w h => by cases d <;> exact h) ?_
    iterate 7
      refine lexS_step (fun K hK => ?_)
      simp only [lexOp, List.getElem?_toArray, List.getElem?_cons_succ, List.getElem?_cons_zero]
      rw [if_pos (by rfl)]
      apply Exists.intro
      refine ⟨fun w' hS' => ?_, hSw, ?_⟩
      · first | (go_simp <;> with_reducible rfl) | (go_simp; go_bits; with_reducible rfl)
      go_simp
      try go_bits
      refine hK _ _ ?_
      clear hK K
    refine lexS_step (fun K hK => ?_)
    simp only [lexOp, List.getElem?_toArray, List.getElem?_cons_succ, List.getElem?_cons_zero]
    rw [if_pos (by rfl)]
    go_step
    have hal : Below w6.heap.size w6 (w6.drew.alloc (.cells #[.int .u8 (IntKind.u8.wrap y)] 5)) := (Below.refl _ _).drew.alloc (by simp) _
    replace hSw : Below W.heap.size W (w6.drew.alloc (.cells #[.int .u8 (IntKind.u8.wrap y)] 5)) := HW6.out.trans (hal.mono HW6.out.size)
    refine ⟨hSw, hK _ _ ?_⟩
    clear hK K
    refine lexS_step (fun K hK => ?_)
    simp only [lexOp, List.getElem?_toArray, List.getElem?_cons_succ, List.getElem?_cons_zero]
    rw [if_pos (by rfl)]
    change Oper.wp _ _ _ _ _ _
    refine wp_appK oneN (ops := #[]) rfl _ _ _ rfl W.heap.size _ _ _ rfl (own_below HO6.out hal) (.slice (some ⟨w6.heap.size, 0, none⟩) 1 1) 1 _ rfl (Src.litS (w := w6.drew) (z := 1) (m := 1) (c := 1) (C := #[.int .u8 (IntKind.u8.wrap y)]) (e := 5) rfl rfl Try.underlying25) (by omega) (by unfold maxLen; omega) hSw.size ?_
    intro v7 w7 hown7 _ hb7
    rw [show (#[Value.int .u8 (IntKind.u8.wrap y)] : Array Value).toList = (putB (u64N y) 1).map encB from HYB.out, ← List.map_append] at hown7
    obtain ⟨a7, c7, rfl, hs7, hc7⟩ := Sl.ofOwn hown7
    have HS7 := Lib.hid hs7
    replace hSw := hSw.trans hb7
    refine ⟨hSw, hK _ _ ?_⟩
    clear hK K hown7 hb7 hs7 hal
    have HB7 := Lib.hid (HB2.out.trans (hSw.mono HB2.out.size))
    refine lexS_stir (fun z => Below w7.heap.size w7 z) (fun z hz => hSw.trans (hz.mono hSw.size)) (Below.refl _ _) ?_
    replace ld3 := fun w' (h : Below w7.heap.size w7 w') => ld3 w' (hSw.trans (h.mono hSw.size))
    go_simp
    iterate 1
      refine stir_step (fun K hK => ?_)
      simp only [stirOp, List.getElem?_toArray, List.getElem?_cons_succ, List.getElem?_cons_zero]
      rw [if_pos (by rfl)]
      apply Exists.intro
      refine ⟨fun w' hS' => ?_, ?_⟩
      · first | (go_simp <;> with_reducible rfl) | (go_simp; go_bits; with_reducible rfl)
      go_simp
      try go_bits
      refine hK _ ?_
      clear hK K
    iterate 3
      refine stir_step (fun K hK => ?_)
      simp only [stirOp, List.getElem?_toArray, List.getElem?_cons_succ, List.getElem?_cons_zero]
      rw [if_neg (Bool.eq_false_iff.1 (by rfl))]
      go_simp
      refine hK _ ?_
      clear hK K
    iterate 3
      refine stir_step (fun K hK => ?_)
      simp only [stirOp, List.getElem?_toArray, List.getElem?_cons_succ, List.getElem?_cons_zero]
      rw [if_pos (by rfl)]
      apply Exists.intro
      refine ⟨fun w' hS' => ?_, ?_⟩
      · first | (go_simp <;> with_reducible rfl) | (go_simp; go_bits; with_reducible rfl)
      go_simp
      try go_bits
      refine hK _ ?_
      clear hK K
    refine stir_nil (fun w8 hb8 => ?_)
    have HB8 := Lib.hid (HB7.out.trans (hb8.mono HB7.out.size))
    have HS8 := Lib.hid (HS7.out.below hb8)
    clear ld3 hSw hb8
    go_wp2_with fail
    go_ret2
    exact ⟨a7, 2 + 1, c7, _, by first | (rw [HNO.out]; done) | (rw [HNO.out]; rfl), HS8.out, hc7, (fun h => by rw [HNO.out] at h; cases h), HB8.out⟩
  by_cases y2 : 127 < y
  · have e3 : decide (-128 ≤ y) = true := by simp; omega
    have e4 : decide (y ≤ 127) = false := by simp; omega
    have HNO := Lib.hid (show fitsB ⟨p, o, x, y⟩ (formN (⟨p, o, x, y⟩ : RW).op) = false by rw [HFI.out]; unfold fitsB; simp; try omega)
    clear y1 y2
    go_upto_region 22 with fail
    clear c0 c1 c2 c3 hgW
    obtain ⟨⟨c0, c1, c2, c3⟩, _, hgW⟩ := HK2.out.box
    have ld3 := fun w' (h : Below W.heap.size W w') => cellS_below h c3
    have hSw : Below W.heap.size W w6.drew := HW6.out.drew
    clear c0 c1 c2 c3 hgW
    refine wp_region_lexS (Below W.heap.size W) (.of [(0, true), (1, true), (2, true), (3, true), (6, true), (7, true), (8, true), (4, false), (5, false)] (.stir [(9, true), (10, true), (11, true), (12, true), (13, true), (14, true), (15, true)])) (by kernel_rfl) (by kernel_rfl) (fun c a d v w h => by cases d <;> exact h) ?_
    iterate 7
      refine lexS_step (fun K hK => ?_)
      simp only [lexOp, List.getElem?_toArray, List.getElem?_cons_succ, List.getElem?_cons_zero]
      rw [if_pos (by rfl)]
      apply Exists.intro
      refine ⟨fun w' hS' => ?_, hSw, ?_⟩
      · first | (go_simp <;> with_reducible rfl) | (go_simp; go_bits; with_reducible rfl)
      go_simp
      try go_bits
      refine hK _ _ ?_
      clear hK K
    refine lexS_step (fun K hK => ?_)
    simp only [lexOp, List.getElem?_toArray, List.getElem?_cons_succ, List.getElem?_cons_zero]
    rw [if_pos (by rfl)]
    go_step
    have hal : Below w6.heap.size w6 (w6.drew.alloc (.cells #[.int .u8 (IntKind.u8.wrap y)] 5)) := (Below.refl _ _).drew.alloc (by simp) _
    replace hSw : Below W.heap.size W (w6.drew.alloc (.cells #[.int .u8 (IntKind.u8.wrap y)] 5)) := HW6.out.trans (hal.mono HW6.out.size)
    refine ⟨hSw, hK _ _ ?_⟩
    clear hK K
    refine lexS_step (fun K hK => ?_)
    simp only [lexOp, List.getElem?_toArray, List.getElem?_cons_succ, List.getElem?_cons_zero]
    rw [if_pos (by rfl)]
    change Oper.wp _ _ _ _ _ _
    refine wp_appK oneN (ops := #[]) rfl _ _ _ rfl W.heap.size _ _ _ rfl (own_below HO6.out hal) (.slice (some ⟨w6.heap.size, 0, none⟩) 1 1) 1 _ rfl (Src.litS (w := w6.drew) (z := 1) (m := 1) (c := 1) (C := #[.int .u8 (IntKind.u8.wrap y)]) (e := 5) rfl rfl Try.underlying25) (by omega) (by unfold maxLen; omega) hSw.size ?_
    intro v7 w7 hown7 _ hb7
    rw [show (#[Value.int .u8 (IntKind.u8.wrap y)] : Array Value).toList = (putB (u64N y) 1).map encB from HYB.out, ← List.map_append] at hown7
    obtain ⟨a7, c7, rfl, hs7, hc7⟩ := Sl.ofOwn hown7
    have HS7 := Lib.hid hs7
    replace hSw := hSw.trans hb7
    refine ⟨hSw, hK _ _ ?_⟩
    clear hK K hown7 hb7 hs7 hal
    have HB7 := Lib.hid (HB2.out.trans (hSw.mono HB2.out.size))
    refine lexS_stir (fun z => Below w7.heap.size w7 z) (fun z hz => hSw.trans (hz.mono hSw.size)) (Below.refl _ _) ?_
    replace ld3 := fun w' (h : Below w7.heap.size w7 w') => ld3 w' (hSw.trans (h.mono hSw.size))
    go_simp
    iterate 1
      refine stir_step (fun K hK => ?_)
      simp only [stirOp, List.getElem?_toArray, List.getElem?_cons_succ, List.getElem?_cons_zero]
      rw [if_pos (by rfl)]
      apply Exists.intro
      refine ⟨fun w' hS' => ?_, ?_⟩
      · first | (go_simp <;> with_reducible rfl) | (go_simp; go_bits; with_reducible rfl)
      go_simp
      try go_bits
      refine hK _ ?_
      clear hK K
    iterate 3
      refine stir_step (fun K hK => ?_)
      simp only [stirOp, List.getElem?_toArray, List.getElem?_cons_succ, List.getElem?_cons_zero]
      rw [if_pos (by rfl)]
      apply Exists.intro
      refine ⟨fun w' hS' => ?_, ?_⟩
      · first | (go_simp <;> with_reducible rfl) | (go_simp; go_bits; with_reducible rfl)
      go_simp
      try go_bits
      refine hK _ ?_
      clear hK K
    iterate 3
      refine stir_step (fun K hK => ?_)
      simp only [stirOp, List.getElem?_toArray, List.getElem?_cons_succ, List.getElem?_cons_zero]
      rw [if_pos (by rfl)]
      apply Exists.intro
      refine ⟨fun w' hS' => ?_, ?_⟩
      · first | (go_simp <;> with_reducible rfl) | (go_simp; go_bits; with_reducible rfl)
      go_simp
      try go_bits
      refine hK _ ?_
      clear hK K
    refine stir_nil (fun w8 hb8 => ?_)
    have HB8 := Lib.hid (HB7.out.trans (hb8.mono HB7.out.size))
    have HS8 := Lib.hid (HS7.out.below hb8)
    clear ld3 hSw hb8
    go_wp2_with fail
    go_ret2
    exact ⟨a7, 2 + 1, c7, _, by first | (rw [HNO.out]; done) | (rw [HNO.out]; rfl), HS8.out, hc7, (fun h => by rw [HNO.out] at h; cases h), HB8.out⟩
  have e3 : decide (-128 ≤ y) = true := by simp; omega
  have e4 : decide (y ≤ 127) = true := by simp; omega
  have HYS := Lib.hid (show fitsB ⟨p, o, x, y⟩ (formN (⟨p, o, x, y⟩ : RW).op) = true by rw [HFI.out]; unfold fitsB; simp at e1 e2; simp; try omega)
  clear y1 y2
  go_upto_region 22 with fail
  clear c0 c1 c2 c3 hgW
  obtain ⟨⟨c0, c1, c2, c3⟩, _, hgW⟩ := HK2.out.box
  have ld3 := fun w' (h : Below W.heap.size W w') => cellS_below h c3
  have hSw : Below W.heap.size W w6.drew := HW6.out.drew
  clear c0 c1 c2 c3 hgW
  refine wp_region_lexS (Below W.heap.size W) (.of [(0, true), (1, true), (2, true), (3, true), (6, true), (7, true), (8, true), (4, false), (5, false)] (.stir [(9, true), (10, true), (11, true), (12, true), (13, true), (14, true), (15, true)])) (by kernel_rfl) (by kernel_rfl) (fun c a d v w h => by cases d <;> exact h) ?_
  iterate 7
    refine lexS_step (fun K hK => ?_)
    simp only [lexOp, List.getElem?_toArray, List.getElem?_cons_succ, List.getElem?_cons_zero]
    rw [if_pos (by rfl)]
    apply Exists.intro
    refine ⟨fun w' hS' => ?_, hSw, ?_⟩
    · first | (go_simp <;> with_reducible rfl) | (go_simp; go_bits; with_reducible rfl)
    go_simp
    try go_bits
    refine hK _ _ ?_
    clear hK K
  refine lexS_step (fun K hK => ?_)
  simp only [lexOp, List.getElem?_toArray, List.getElem?_cons_succ, List.getElem?_cons_zero]
  rw [if_pos (by rfl)]
  go_step
  have hal : Below w6.heap.size w6 (w6.drew.alloc (.cells #[.int .u8 (IntKind.u8.wrap y)] 5)) := (Below.refl _ _).drew.alloc (by simp) _
  replace hSw : Below W.heap.size W (w6.drew.alloc (.cells #[.int .u8 (IntKind.u8.wrap y)] 5)) := HW6.out.trans (hal.mono HW6.out.size)
  refine ⟨hSw, hK _ _ ?_⟩
  clear hK K
  refine lexS_step (fun K hK => ?_)
  simp only [lexOp, List.getElem?_toArray, List.getElem?_cons_succ, List.getElem?_cons_zero]
  rw [if_pos (by rfl)]
  change Oper.wp _ _ _ _ _ _
  refine wp_appK oneN (ops := #[]) rfl _ _ _ rfl W.heap.size _ _ _ rfl (own_below HO6.out hal) (.slice (some ⟨w6.heap.size, 0, none⟩) 1 1) 1 _ rfl (Src.litS (w := w6.drew) (z := 1) (m := 1) (c := 1) (C := #[.int .u8 (IntKind.u8.wrap y)]) (e := 5) rfl rfl Try.underlying25) (by omega) (by unfold maxLen; omega) hSw.size ?_
  intro v7 w7 hown7 _ hb7
  rw [show (#[Value.int .u8 (IntKind.u8.wrap y)] : Array Value).toList = (putB (u64N y) 1).map encB from HYB.out, ← List.map_append] at hown7
  obtain ⟨a7, c7, rfl, hs7, hc7⟩ := Sl.ofOwn hown7
  have HS7 := Lib.hid hs7
  replace hSw := hSw.trans hb7
  refine ⟨hSw, hK _ _ ?_⟩
  clear hK K hown7 hb7 hs7 hal
  have HB7 := Lib.hid (HB2.out.trans (hSw.mono HB2.out.size))
  refine lexS_stir (fun z => Below w7.heap.size w7 z) (fun z hz => hSw.trans (hz.mono hSw.size)) (Below.refl _ _) ?_
  replace ld3 := fun w' (h : Below w7.heap.size w7 w') => ld3 w' (hSw.trans (h.mono hSw.size))
  go_simp
  iterate 1
    refine stir_step (fun K hK => ?_)
    simp only [stirOp, List.getElem?_toArray, List.getElem?_cons_succ, List.getElem?_cons_zero]
    rw [if_pos (by rfl)]
    apply Exists.intro
    refine ⟨fun w' hS' => ?_, ?_⟩
    · first | (go_simp <;> with_reducible rfl) | (go_simp; go_bits; with_reducible rfl)
    go_simp
    try go_bits
    refine hK _ ?_
    clear hK K
  iterate 3
    refine stir_step (fun K hK => ?_)
    simp only [stirOp, List.getElem?_toArray, List.getElem?_cons_succ, List.getElem?_cons_zero]
    rw [if_pos (by rfl)]
    apply Exists.intro
    refine ⟨fun w' hS' => ?_, ?_⟩
    · first | (go_simp <;> with_reducible rfl) | (go_simp; go_bits; with_reducible rfl)
    go_simp
    try go_bits
    refine hK _ ?_
    clear hK K
  iterate 3
    refine stir_step (fun K hK => ?_)
    simp only [stirOp, List.getElem?_toArray, List.getElem?_cons_succ, List.getElem?_cons_zero]
    rw [if_pos (by rfl)]
    apply Exists.intro
    refine ⟨fun w' hS' => ?_, ?_⟩
    · first | (go_simp <;> with_reducible rfl) | (go_simp; go_bits; with_reducible rfl)
    go_simp
    try go_bits
    refine hK _ ?_
    clear hK K
  refine stir_nil (fun w8 hb8 => ?_)
  have HB8 := Lib.hid (HB7.out.trans (hb8.mono HB7.out.size))
  have HS8 := Lib.hid (HS7.out.below hb8)
  clear ld3 hSw hb8
  go_wp2_with fail
  go_ret2
  exact ⟨a7, 2 + 1, c7, _, by first | (rw [HYS.out]; done) | (rw [HYS.out]; rfl), HS8.out, hc7, fun _ => HEN.out.symm, HB8.out⟩
theorem refone_any (w : World) (r : RW) (hop : r.op < 256) (h7 : formN r.op ≠ 7) : Calls Try.prog 26 #[.agg #[.int .i64 r.pos, .int .u8 (r.op : Nat), .int .i64 r.a, .int .i64 r.b]] w (OneR r w) := by
  obtain ⟨p, o, x, y⟩ := r
  have h9 := formN_le o
  have hc : formN o = 0 ∨ formN o = 1 ∨ formN o = 2 ∨ formN o = 3 ∨ formN o = 4 ∨ formN o = 5 ∨ formN o = 6 ∨ formN o = 8 ∨ formN o = 9 := by
    simp only at h7
    omega
  rcases hc with h | h | h | h | h | h | h | h | h
  · exact refone_0 w p o x y hop h
  · exact refone_1 w p o x y hop h
  · exact refone_2 w p o x y hop h
  · exact refone_3 w p o x y hop h
  · exact refone_4 w p o x y hop h
  · exact refone_5 w p o x y hop h
  · exact refone_6 w p o x y hop h
  · exact refone_8 w p o x y hop h
  · exact refone_9 w p o x y hop h
end Go.Proofs.Ytfhajbfgdbcpeaa
