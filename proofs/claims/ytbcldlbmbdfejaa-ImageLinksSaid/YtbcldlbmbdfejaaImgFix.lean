/- image: the law's fixed calls. No condition. -/
import Derived.Test.YtbcldlbmbdfejaaImgBytes
import Derived.Test.YtbcldlbmbdfejaaImgParse
import Derived.Laws.StructEq
namespace Go.Proofs.Ytbcldlbmbdfejaa
open Go.ChangeShapes Go.WideShapes Go.ChangeAt Go.RowKit
def b18 : List UInt8 := [67, 73, 48, 49, 0, 0, 0, 0, 0, 0, 0, 0, 0, 0, 0, 0, 0, 0]
theorem fxB : imgBytes x0W [] = (0, b18) := by kernel_rfl
theorem fxP : parseR b18 = (xp0, 0) := by kernel_rfl
theorem fxL1 : lkOk [⟨177, 0, 0, 0⟩] = true := by kernel_rfl
theorem fxL2 : lkB [⟨177, 0, 0, 0⟩] = [177] := by kernel_rfl
theorem fxL3 : placesL [⟨177, 0, 0, 0⟩] = [0, 1] := by kernel_rfl
theorem fxL4 : lkOk [⟨255, 0, 0, 0⟩] = false := by kernel_rfl
theorem x0W_right : x0W.Right := by
  have h0 : IntR 0 := by unfold IntR; omega
  exact ⟨h0, h0, (fun c hc => by cases hc), (fun c hc => by cases hc), (fun c hc => by cases hc), (fun c hc => by cases hc), by decide, by decide, by decide, by decide⟩
theorem LK.right0 (k : Nat) (h : k < 256) : (⟨k, 0, 0, 0⟩ : LK).right := by
  have h0 : IntR 0 := by unfold IntR; omega
  exact ⟨h, h0, h0, h0⟩
set_option maxRecDepth 100000 in
set_option maxHeartbeats 8000000 in
theorem fixed25 (w : World) : Calls Try.prog 7 #[] w (QuietRet (.bool true) w) := by
  have HS1 := Lib.hid (show Ls (w.alloc (.cells #[.int .u8 177, .int .i64 0, .int .i64 0, .int .i64 0] 54)) (some ⟨w.heap.size, 0, none⟩) 1 [⟨177, 0, 0, 0⟩] from Ss.lit LK.len (heap_alloc_last w _) rfl rfl)
  have HL1 := Lib.hid (Link_any _ _ 1 1 _ HS1.out (by decide) (fun r hr => by rw [List.mem_singleton.1 hr]; exact LK.right0 177 (by decide)))
  go_enter Try.func7, Try.ntmps7
  go_wp2_with fail
  refine HL1.out.mono ?_
  rintro e w1 (⟨_, v1, m1, p1, rfl, ho1, hp1, hb1⟩ | ⟨hbad, _⟩)
  case inr => rw [fxL1] at hbad; cases hbad
  rw [fxL2] at ho1
  rw [fxL3] at hp1
  simp only [List.length_singleton] at hp1
  have hm1 : m1 = 1 := ho1.len.symm
  subst hm1
  obtain ⟨a1, c1, rfl, hs1, hc1⟩ := ho1.sl
  obtain ⟨a2, c2, rfl, hs2, hc2⟩ := Sl.ofOwn hp1
  have H1 := Lib.hid hs1
  have H2 := Lib.hid hs2
  have HB1 := Lib.hid (((Below.refl w.heap.size w).alloc (Nat.le_refl _) (.cells #[.int .u8 177, .int .i64 0, .int .i64 0, .int .i64 0] 54)).trans (hb1.mono (by simp)))
  clear ho1 hp1 hb1 hs1 hs2 HL1 HS1
  have HS2 := Lib.hid (show Ls (w1.alloc (.cells #[.int .u8 255, .int .i64 0, .int .i64 0, .int .i64 0] 54)) (some ⟨w1.heap.size, 0, none⟩) 1 [⟨255, 0, 0, 0⟩] from Ss.lit LK.len (heap_alloc_last w1 _) rfl rfl)
  have HL2 := Lib.hid (Link_any _ _ 1 1 _ HS2.out (by decide) (fun r hr => by rw [List.mem_singleton.1 hr]; exact LK.right0 255 (by decide)))
  go_wp2_with fail
  refine HL2.out.mono ?_
  rintro e w2 (⟨hbad, _⟩ | ⟨_, rfl, hb2⟩)
  · rw [fxL4] at hbad; cases hbad
  have hb12 : Below w1.heap.size w1 w2 := ((Below.refl w1.heap.size w1).alloc (Nat.le_refl _) (.cells #[.int .u8 255, .int .i64 0, .int .i64 0, .int .i64 0] 54)).trans (hb2.mono (by simp))
  have H1' := Lib.hid (H1.out.below hb12)
  have H2' := Lib.hid (H2.out.below hb12)
  have HB2 := Lib.hid (HB1.out.trans (hb12.mono HB1.out.size))
  clear hb2 hb12 HL2 HS2 H1 H2 HB1
  have HBY := Lib.hid (Bytes_any w2 x0W (x0W_rd w2) x0W_right none 0 0 [] (Sl.nil _ _) (fun f hf => by cases hf) (fun _ _ => by decide))
  rw [show ([] : List BV).map (·.data) = [] from rfl, fxB] at HBY
  rw [x0W_vals] at HBY
  unfold zImg at HBY
  go_wp2_with fail
  refine HBY.out.mono ?_
  rintro e w3 ⟨a3, m3, c3, rfl, hs3, hc3, hb3⟩
  have hm3 : m3 = 18 := hs3.1.symm
  subst hm3
  have H1 := Lib.hid (H1'.out.below hb3)
  have H2 := Lib.hid (H2'.out.below hb3)
  have H3 := Lib.hid hs3
  have HB3 := Lib.hid (HB2.out.trans (hb3.mono HB2.out.size))
  have HPA := Lib.hid (Parse_any w3 a3 18 c3 b18 hs3 hc3 (by decide))
  rw [fxP] at HPA
  clear hs3 hb3 H1' H2' HB2 HBY
  go_wp2_with fail
  refine HPA.out.mono ?_
  rintro e w4 ⟨x, rfl, hxp, _, hb4⟩
  have hmain : x.main = 0 := congrArg XP.main hxp
  have H1' := Lib.hid (H1.out.below hb4)
  have H2' := Lib.hid (H2.out.below hb4)
  have HB4 := Lib.hid (HB3.out.trans (hb4.mono HB3.out.size))
  obtain ⟨ca, cn, cc, cs, ma, mn, mc, ms, st, sa, sn, sc, ss, ya, yn, yc, ys, xa, xn, xc, xs, ka, kn, kc, ks, main⟩ := x
  simp only at hmain
  subst hmain
  unfold XW.vals
  simp only
  clear hxp hb4 H1 H2 H3 HB3 HPA
  go_upto_region 5 with fail
  have hal : Below w4.heap.size w4 (w4.alloc (.cells #[.slice ca cn cc, .slice ma mn mc, .int .i64 st, .slice sa sn sc, .slice ya yn yc, .slice xa xn xc, .slice ka kn kc, .int .i64 0] 30)) := (Below.refl _ _).alloc (Nat.le_refl _) _
  have HX := Lib.hid (heap_alloc_last w4 (.cells #[.slice ca cn cc, .slice ma mn mc, .int .i64 st, .slice sa sn sc, .slice ya yn yc, .slice xa xn xc, .slice ka kn kc, .int .i64 0] 30))
  have H1 := Lib.hid (H1'.out.below hal)
  have H2 := Lib.hid (H2'.out.below hal)
  have HB5 := Lib.hid (HB4.out.trans (hal.mono HB4.out.size))
  clear hal H1' H2' HB4
  generalize w4.alloc (.cells #[.slice ca cn cc, .slice ma mn mc, .int .i64 st, .slice sa sn sc, .slice ya yn yc, .slice xa xn xc, .slice ka kn kc, .int .i64 0] 30) = w5 at *
  generalize w4.heap.size = gx at *
  have c7 := row_cell HX.out 7 rfl
  have cv := run_conv H1.out c1
  obtain ⟨b2, o2, rfl, _, hcell⟩ := H2.out.2 (by decide)
  have q1 := hcell 1 (by decide)
  unfold encP at q1
  simp only [List.getElem_cons_succ, List.getElem_cons_zero] at q1
  clear hcell
  go_wp2_with fail
  go_ret
  exact ⟨rfl, HB5.out⟩
end Go.Proofs.Ytbcldlbmbdfejaa
