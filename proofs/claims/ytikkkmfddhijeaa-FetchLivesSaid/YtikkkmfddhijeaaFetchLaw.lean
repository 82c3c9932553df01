/- fetch: the fixed calls. No condition. -/
import Derived.Test.YtikkkmfddhijeaaFetchFn7
namespace Go.Proofs.Ytikkkmfddhijeaa
open Go.ChangeShapes Go.WideShapes Go.ChangeAt Go.RowKit
def ten : List UInt8 := [48, 49, 50, 51, 52, 53, 54, 55, 56, 57]
def four : List UInt8 := [48, 49, 50, 51]
set_option maxRecDepth 100000 in
set_option maxHeartbeats 4000000 in
theorem fixed30_any (w : World) : Calls Try.prog 8 #[] w fun e w' => e = .returned (.bool true) ∧ Below w.heap.size w w' := by
  go_enter Try.func8, Try.ntmps8
  go_wp2_with fail
  have h1 := New_any w 10 4 (by unfold IntR; omega) (by unfold IntR; omega)
  rw [if_pos (by decide), if_pos (by decide)] at h1
  refine h1.mono ?_
  clear h1
  rintro e w1 ⟨rfl, hb1⟩
  have HB1 := Lib.hid hb1
  clear hb1
  go_wp2_with fail
  have h2 := Want_any (w1.alloc (.cells #[.int .i64 10, .int .i64 4, .slice none 0 0] 24)) 10 4 none 0 0 (by unfold IntR; omega) (by unfold IntR; omega) (by unfold maxLen; omega)
  rw [show wantR 10 4 0 = (0, 4) by decide] at h2
  refine h2.mono ?_
  clear h2
  rintro e w2 ⟨rfl, hb2⟩
  have K1 := Lib.hid (Blk3.below (w1 := w2) (heap_alloc_last w1 (.cells #[.int .i64 10, .int .i64 4, .slice none 0 0] 24)) hb2)
  have HB2 := Lib.hid (HB1.out.trans (((Below.refl w1.heap.size w1).alloc (Nat.le_refl _) (.cells #[.int .i64 10, .int .i64 4, .slice none 0 0] 24)).trans (hb2.mono (by simp)) |>.mono HB1.out.size))
  clear hb2
  have kc := Lib.run_convert_bytes_const (P := Try.prog) w2 22 5 #[.int .u8 48, .int .u8 49, .int .u8 50, .int .u8 51, .int .u8 52, .int .u8 53, .int .u8 54, .int .u8 55, .int .u8 56, .int .u8 57] 10 10 Try.underlying22 Try.underlying5
  go_wp2_with fail
  have hsl2 : Sl encB (w2.alloc (.cells #[.int .u8 48, .int .u8 49, .int .u8 50, .int .u8 51, .int .u8 52, .int .u8 53, .int .u8 54, .int .u8 55, .int .u8 56, .int .u8 57] 5 (10, 11))) (some ⟨w2.heap.size, 0, none⟩) 10 ten := Sl.lit (heap_alloc_last w2 _) rfl rfl
  have h3 := Serve_any _ _ 10 10 ten 0 4 hsl2 (by omega) (by omega) (by unfold partOk; omega)
  rw [show partL ten 0 4 = four by decide] at h3
  refine h3.mono ?_
  clear h3 hsl2
  rintro e w3 ⟨a3, n3, c3, rfl, hown3, hb3⟩
  obtain ⟨hsl3, hc3⟩ := Sl.ofOwnS hown3
  obtain rfl : n3 = 4 := hsl3.1.symm
  have hb3' : Below w2.heap.size w2 w3 := ((Below.refl _ _).alloc (Nat.le_refl _) _).trans (hb3.mono (by simp))
  have K1b := Lib.hid (K1.out.below hb3')
  have HB3 := Lib.hid (HB2.out.trans (hb3'.mono HB2.out.size))
  have HS3 := Lib.hid hsl3
  clear hb3 hb3' hown3 hsl3 K1 HB2 HB1 kc
  obtain ⟨p0, p1, p2, f0, f1, f2, lt1⟩ := K1b.out.box
  go_wp2_with fail
  have h4 := Take_any (w3.alloc (.cells #[.int .i64 0, .slice a3 4 c3, .int .u32 (S32 four)] 27)) 10 4 none 0 0 [] 0 (S32 four) a3 4 c3 four (by unfold IntR; omega) (by unfold IntR; omega) (by omega) (Sl.nil _ _) (HS3.out.below ((Below.refl _ _).alloc (Nat.le_refl _) _)) (by omega)
  rw [show takesR 10 4 0 0 four (S32 four) = true from decide_eq_true ⟨by decide, by decide, by decide, rfl⟩, show takeL true [] four = four from rfl] at h4
  refine h4.mono ?_
  clear h4
  rintro e w4 ⟨a4, n4, c4, rfl, hown4, hb4⟩
  obtain ⟨hsl4, hc4⟩ := Sl.ofOwnS hown4
  obtain rfl : n4 = 4 := hsl4.1.symm
  have hb4' : Below w3.heap.size w3 w4 := ((Below.refl _ _).alloc (Nat.le_refl _) _).trans (hb4.mono (by simp))
  have K5 := Lib.hid (Blk3.below (w1 := w4) (heap_alloc_last w3 (.cells #[.int .i64 0, .slice a3 4 c3, .int .u32 (S32 four)] 27)) hb4)
  have HB4 := Lib.hid (HB3.out.trans (hb4'.mono HB3.out.size))
  have HS4 := Lib.hid hsl4
  have HS3' := Lib.hid (HS3.out.below hb4')
  clear hb4 hb4' hown4 hsl4 K1b HB3 HS3 p0 p1 p2 f0 f1 f2 lt1
  obtain ⟨p0, p1, p2, f0, f1, f2, lt1⟩ := K5.out.box
  go_wp2_with fail
  have h5 := Take_any (w4.alloc (.cells #[.int .i64 10, .int .i64 4, .slice a4 4 c4] 24)) 10 4 a4 4 c4 four 0 (S32 four) a3 4 c3 four (by unfold IntR; omega) (by unfold IntR; omega) (by omega) (HS4.out.below ((Below.refl _ _).alloc (Nat.le_refl _) _)) (HS3'.out.below ((Below.refl _ _).alloc (Nat.le_refl _) _)) (by omega)
  rw [show takesR 10 4 4 0 four (S32 four) = false from decide_eq_false (fun h => absurd h.2.1 (by decide))] at h5
  refine h5.mono ?_
  clear h5
  rintro e w5 ⟨a5, n5, c5, rfl, hown5, hb5⟩
  have hb5' : Below w4.heap.size w4 w5 := ((Below.refl _ _).alloc (Nat.le_refl _) _).trans (hb5.mono (by simp))
  have K7 := Lib.hid (Blk3.below (w1 := w5) (heap_alloc_last w4 (.cells #[.int .i64 10, .int .i64 4, .slice a4 4 c4] 24)) hb5)
  have HB5 := Lib.hid (HB4.out.trans (hb5'.mono HB4.out.size))
  have HS5 := Lib.hid (HS4.out.below hb5')
  clear hb5 hb5' hown5 K5 HB4 HS4 HS3' p0 p1 p2 f0 f1 f2 lt1
  go_wp2_with fail
  have h6 := New_any (w5.alloc (.cells #[.int .i64 10, .int .i64 4, .slice a5 n5 c5] 24)) 0 1 (by unfold IntR; omega) (by unfold IntR; omega)
  rw [if_neg (by decide), if_neg (by decide)] at h6
  refine h6.mono ?_
  clear h6
  rintro e w6 ⟨rfl, hb6⟩
  have hb6' : Below w5.heap.size w5 w6 := ((Below.refl _ _).alloc (Nat.le_refl _) _).trans (hb6.mono (by simp))
  have hb7 : Below w5.heap.size w5 (w6.alloc (.cells #[.int .i64 0, .int .i64 0, .slice none 0 0] 24)) := hb6'.alloc hb6'.size _
  have K7b := Lib.hid (K7.out.below hb6')
  have HB6 := Lib.hid (HB5.out.trans (hb7.mono HB5.out.size))
  have hcv := run_conv (HS5.out.below hb7) c4
  clear hb6 hb6' hb7 K7 HB5 HS5
  obtain ⟨p0, p1, p2, f0, f1, f2, lt1⟩ := K7b.out.box
  have h4a : (⟨four.toArray⟩ : ByteArray) = ⟨#[48, 49, 50, 51]⟩ := rfl
  rw [h4a] at hcv
  go_wp2_with fail
  have h8 := Chunks_any (w6.alloc (.cells #[.int .i64 0, .int .i64 0, .slice none 0 0] 24)) 10 4 a4 4 c4 (by unfold IntR; omega) (by unfold IntR; omega) (by unfold maxLen; omega)
  rw [show chunksR 10 4 4 = 3 by decide] at h8
  refine h8.mono ?_
  clear h8
  rintro e w8 ⟨rfl, hb8⟩
  have HB8 := Lib.hid (HB6.out.trans (hb8.mono HB6.out.size))
  clear hb8
  go_wp2_with fail
  go_ret
  exact ⟨rfl, HB8.out⟩
end Go.Proofs.Ytikkkmfddhijeaa
