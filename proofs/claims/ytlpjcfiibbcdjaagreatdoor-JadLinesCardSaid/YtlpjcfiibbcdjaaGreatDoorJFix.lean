/- jad: the fixed answers. No condition. -/
import Derived.Test.YtlpjcfiibbcdjaaGreatDoorJEq
namespace Go.Proofs.YtlpjcfiibbcdjaaGreatDoor
open Go.ChangeShapes Go.WideShapes Go.ChangeAt Go.RowKit
def lineJ (j : JD) (i : Nat) : List UInt8 := keyT i ++ valJ j i
theorem line_no10 {j : JD} (h : OkJ j) (i : Nat) (hi : i < 5) : (10 : UInt8) ∉ lineJ j i := by
  obtain ⟨c, m, _, _, hk⟩ := key_head i hi
  intro hc
  rcases List.mem_append.1 hc with h1 | h1
  · exact hk h1
  · exact absurd rfl ((valJ_ok h i).1 10 h1).1
theorem text_cut (j : JD) : textJ j = lineJ j 0 ++ 10 :: (lineJ j 1 ++ 10 :: (lineJ j 2 ++ 10 :: (lineJ j 3 ++ 10 :: (lineJ j 4 ++ 10 :: [])))) := by
  unfold textJ lineJ keyT valJ
  simp
theorem text_lines {j : JD} (h : OkJ j) : sp 10 (textJ j) = [lineJ j 0, lineJ j 1, lineJ j 2, lineJ j 3, lineJ j 4, []] := by
  rw [text_cut, sp_app 10 _ _ (line_no10 h 0 (by decide)), sp_app 10 _ _ (line_no10 h 1 (by decide)), sp_app 10 _ _ (line_no10 h 2 (by decide)), sp_app 10 _ _ (line_no10 h 3 (by decide)), sp_app 10 _ _ (line_no10 h 4 (by decide))]
  rfl
theorem lineIs_line {j : JD} (h : OkJ j) (i : Nat) (hi : i < 5) : lineIs (lineJ j i) (some (i, valJ j i)) := by
  refine ⟨?_, hi⟩
  have := trim_line i hi (valJ j i) (valJ_ok h i).1 (valJ_ok h i).2 0 0
  simpa [lineJ] using this
theorem text_len {j : JD} (hf : FitJ j) : (textJ j).length ≤ 1000 := by
  have hlv := vtext_len hf.a hf.b hf.c
  have hli := itoa_len j.size (by have := hf.s.1; omega) (by have := hf.s.2; omega)
  have hlh : (hexB j.hash).length = 64 := by rw [hexB_length, hf.h]
  have hln := hf.n
  have hlm := hf.m
  unfold textJ; simp; omega
/-- P22.2. -/
theorem Parse_text (w : World) (j : JD) (hok : okJ j = true) (hh : j.hash.length = 32) (hv : VW w) :
    Calls Tryz.prog 10 #[.string ⟨(textJ j).toArray⟩] w fun e w' => e = .returned (.tuple #[j.val, .int .i64 0]) ∧ Below w.heap.size w w' := by
  have h := okJ_of hok hh
  have hf := okJ_fit hok hh
  obtain ⟨y, hrun, hy⟩ := run_perm h [some (0, valJ j 0), some (1, valJ j 1), some (2, valJ j 2), some (3, valJ j 3), some (4, valJ j 4), none] [4, 3, 2, 1, 0] zeroJ (by decide) (by decide)
    (by
      show [(0, valJ j 0), (1, valJ j 1), (2, valJ j 2), (3, valJ j 3), (4, valJ j 4)].Perm [(4, valJ j 4), (3, valJ j 3), (2, valJ j 2), (1, valJ j 1), (0, valJ j 0)]
      exact (List.reverse_perm [(4, valJ j 4), (3, valJ j 3), (2, valJ j 2), (1, valJ j 1), (0, valJ j 0)])) (fun i hi hno => absurd (by
      have : i = 0 ∨ i = 1 ∨ i = 2 ∨ i = 3 ∨ i = 4 := by omega
      rcases this with rfl | rfl | rfl | rfl | rfl <;> simp) hno)
  obtain rfl := parts_all hy
  refine Parse_any w (textJ y) _ [] y y 0 (by have := text_len hf; omega) (by rw [text_lines h]; rfl) (fun k x e hx he => ?_) hrun (by have := hf.n; omega) (by have := hf.m; omega) (.inl ⟨rfl, hok, rfl, rfl⟩) hv
  rw [text_lines h] at hx
  match k with
  | 0 => cases hx; cases he; exact lineIs_line h 0 (by decide)
  | 1 => cases hx; cases he; exact lineIs_line h 1 (by decide)
  | 2 => cases hx; cases he; exact lineIs_line h 2 (by decide)
  | 3 => cases hx; cases he; exact lineIs_line h 3 (by decide)
  | 4 => cases hx; cases he; exact lineIs_line h 4 (by decide)
  | 5 => cases hx; cases he; exact trim_blank 0
  | k + 6 => cases hx
theorem Parse_none (w : World) (hv : VW w) : Calls Tryz.prog 10 #[.string ⟨#[]⟩] w fun e w' => e = .returned (.tuple #[zeroJ.val, .int .i64 8]) ∧ Below w.heap.size w w' :=
  Parse_any w [] [none] [4, 3, 2, 1, 0] zeroJ zeroJ 8 (by decide) rfl (fun k x e hx he => by
    match k with
    | 0 => cases hx; cases he; exact trim_blank 0
    | k + 1 => cases hx) rfl (by decide) (by decide) (.inr ⟨.inl (by simp), rfl, rfl⟩) hv
def jx : JD := ⟨[97], 1, 2, 3, [77], 5, List.replicate 32 0⟩
theorem v123 : vtext 1 2 3 = [49, 46, 50, 46, 51] := by
  rw [vtext_eq, itoa_nat (by decide), itoa_nat (by decide), itoa_nat (by decide), dec_small (by decide), dec_small (by decide), dec_small (by decide)]
  rfl
theorem jx_ok : okJ jx = true := by decide
theorem jx_len : (textJ jx).length = 110 := by
  unfold textJ jx
  simp only []
  rw [v123, itoa_nat (by decide), dec_small (by decide)]
  simp only [List.length_append, hexB_length, List.length_replicate, List.length_cons, List.length_nil]
set_option maxHeartbeats 8000000 in
set_option maxRecDepth 100000 in
theorem fixed_any (w : World) (hv : VW w) : Calls Tryz.prog 6 #[] w fun e w' => e = .returned (.bool true) ∧ Below w.heap.size w w' := by
  have hpv := ParseV_any w [49, 46, 50, 46, 51] (by decide) hv
  rw [← v123] at hpv
  obtain ⟨e1, e2⟩ := pv_vtext (a := 1) (b := 2) (c := 3) (by decide) (by decide) (by decide)
  rw [e2, show pvE (vtext 1 2 3) = 0 by unfold pvE; rw [e1]; rfl, v123, show (([1, 2, 3] : List Int).map encI).toArray = #[.int .i64 1, .int .i64 2, .int .i64 3] from rfl] at hpv
  have HPV := Lib.hid hpv
  have HV := Lib.hid hv
  have HPR := Lib.hid (fun w (h : VW w) => Print_ok w jx jx_ok (okJ_fit jx_ok rfl) h)
  have HPA := Lib.hid (fun w (h : VW w) => Parse_text w jx jx_ok rfl h)
  have HPN := Lib.hid (fun w (h : VW w) => Parse_none w h)
  have HCM := Lib.hid (fun w => Cmp3_any w 1 2 3 1 3 0)
  clear hpv hv e1 e2
  obtain ⟨T, hT⟩ : ∃ T, T = textJ jx := ⟨_, rfl⟩
  have HTL := Lib.hid (show T.length = 110 by rw [hT, jx_len])
  rw [← hT] at HPR HPA
  clear hT
  go_enter Tryz.func6, Tryz.ntmps6
  go_wp2_with fail
  refine HPV.out.mono ?_
  rintro e w1 ⟨rfl, hb1⟩
  have HB1 := Lib.hid hb1
  clear hb1
  go_upto_region 2 with fail
  have hb2 : Below w.heap.size w (w1.alloc (.cells #[.int .i64 1, .int .i64 2, .int .i64 3] 23)) := HB1.out.trans (((Below.refl _ _).alloc (Nat.le_refl _) _).mono HB1.out.size)
  have hrow2 : (w1.alloc (.cells #[.int .i64 1, .int .i64 2, .int .i64 3] 23)).heap[w1.heap.size]? = some (.cells #[.int .i64 1, .int .i64 2, .int .i64 3] 23 (0, 0)) := heap_alloc_last w1 _
  generalize w1.alloc (.cells #[.int .i64 1, .int .i64 2, .int .i64 3] 23) = w2 at *
  generalize w1.heap.size = gv at *
  have hvc : ∀ w', Below w2.heap.size w2 w' → w'.cell? ⟨gv, 0, none⟩ = some (.int .i64 1) ∧ w'.cell? ⟨gv, 1, none⟩ = some (.int .i64 2) ∧ w'.cell? ⟨gv, 2, none⟩ = some (.int .i64 3) := fun w' h =>
    ⟨cell_below (by rw [cell_of_row _ _ 0 _ _ _ hrow2]; rfl) h, cell_below (by rw [cell_of_row _ _ 1 _ _ _ hrow2]; rfl) h, cell_below (by rw [cell_of_row _ _ 2 _ _ _ hrow2]; rfl) h⟩
  have HVC := Lib.hid hvc
  have HB2 := Lib.hid hb2
  have HPR2 := Lib.hid (HPR.out w2 (HV.out.below hb2))
  obtain ⟨a0, a1, a2⟩ := hvc w2 (Below.refl _ _)
  clear hvc hb2 hrow2 HB1
  go_wp2_with fail
  refine HPR2.out.mono ?_
  rintro e w3 ⟨rfl, hb3⟩
  have HB3 := Lib.hid (HB2.out.trans (hb3.mono HB2.out.size))
  have HC3 := Lib.hid hb3
  clear hb3 a0 a1 a2
  have hpa := HPA.out w3 (HV.out.below HB3.out)
  unfold JD.val at hpa
  obtain ⟨C, hC⟩ : ∃ C, C = jx.cells.toArray := ⟨_, rfl⟩
  rw [← hC] at hpa
  have HPA2 := Lib.hid hpa
  have HCZ := Lib.hid (show C.size = 38 by rw [hC]; rfl)
  have HCO := Lib.hid (show C.all (·.oneCell') = true by rw [hC]; exact oneJ jx)
  have HC5 := Lib.hid (show C[5]? = some (.int .i64 5) by rw [hC]; rfl)
  clear hC hpa
  go_wp2_with fail
  refine HPA2.out.mono ?_
  rintro e w4 ⟨rfl, hb4⟩
  have HB4 := Lib.hid (HB3.out.trans (hb4.mono HB3.out.size))
  have HC4 := Lib.hid (HC3.out.trans (hb4.mono HC3.out.size))
  clear hb4
  go_upto_region 4 with (refine wpList_store_row rfl _ _ _ rfl _ C rfl rfl _ _ (heap_alloc_last w4 _) (by rw [HCZ.out]; exact info_jad) (by rw [HCZ.out]; rfl) HCO.out ?_)
  change Code.wp _ _ _ _ ((w4.alloc (.cells zeroJ.cells.toArray JadT)).setRow w4.heap.size C)
  have hb5 : Below w4.heap.size w4 ((w4.alloc (.cells zeroJ.cells.toArray JadT)).setRow w4.heap.size C) := below_setRow ((Below.refl _ _).alloc (Nat.le_refl _) _) (Nat.le_refl _) _
  have hr5 : ((w4.alloc (.cells zeroJ.cells.toArray JadT)).setRow w4.heap.size C).heap[w4.heap.size]? = some (.cells C JadT (0, 0)) := setRow_heap _ _ _ _ _ _ (heap_alloc_last w4 _)
  generalize (w4.alloc (.cells zeroJ.cells.toArray JadT)).setRow w4.heap.size C = w5 at *
  have HB5 := Lib.hid (HB4.out.trans (hb5.mono HB4.out.size))
  have HCC5 := Lib.hid (HC4.out.trans (hb5.mono HC4.out.size))
  have HR5 := Lib.hid hr5
  clear hb5 hr5
  generalize w4.heap.size = gx at *
  have hpn := HPN.out w5 (HV.out.below HB5.out)
  unfold JD.val at hpn
  obtain ⟨Z, hZ⟩ : ∃ Z, Z = zeroJ.cells.toArray := ⟨_, rfl⟩
  rw [← hZ] at hpn
  have HPN2 := Lib.hid hpn
  have HZZ := Lib.hid (show Z.size = 38 by rw [hZ]; rfl)
  have HZO := Lib.hid (show Z.all (·.oneCell') = true by rw [hZ]; exact oneJ zeroJ)
  clear hZ hpn
  go_wp2_with fail
  refine HPN2.out.mono ?_
  rintro e w6 ⟨rfl, hb6⟩
  have HB6 := Lib.hid (HB5.out.trans (hb6.mono HB5.out.size))
  have HC6 := Lib.hid (HCC5.out.trans (hb6.mono HCC5.out.size))
  have HR6 := Lib.hid (show w6.heap[gx]? = some (.cells C JadT (0, 0)) by rw [hb6.block gx (rowLt HR5.out)]; exact HR5.out)
  clear hb6
  go_upto_region 5 with (refine wpList_store_row rfl _ _ _ rfl _ Z rfl rfl _ _ (heap_alloc_last w6 _) (by rw [HZZ.out]; exact info_jad) (by rw [HZZ.out]; rfl) HZO.out ?_)
  change Code.wp _ _ _ _ ((w6.alloc (.cells zeroJ.cells.toArray JadT)).setRow w6.heap.size Z)
  have hb7 : Below w6.heap.size w6 ((w6.alloc (.cells zeroJ.cells.toArray JadT)).setRow w6.heap.size Z) := below_setRow ((Below.refl _ _).alloc (Nat.le_refl _) _) (Nat.le_refl _) _
  generalize (w6.alloc (.cells zeroJ.cells.toArray JadT)).setRow w6.heap.size Z = w7 at *
  have HB7 := Lib.hid (HB6.out.trans (hb7.mono HB6.out.size))
  obtain ⟨a0, a1, a2⟩ := HVC.out w7 (HC6.out.trans (hb7.mono HC6.out.size))
  have x5 : w7.cell? ⟨gx, 5, none⟩ = some (.int .i64 5) := cell_below (by rw [cell_of_row _ _ 5 _ _ _ HR6.out]; exact HC5.out) hb7
  have HCM2 := Lib.hid (HCM.out w7)
  rw [show cmpL [1, 2, 3] [1, 3, 0] = -1 from by decide] at HCM2
  have htl := HTL.out
  have he3 := fun w => eq3 w 9998 1 2 3
  clear hb7
  go_wp2_with fail
  refine HCM2.out.mono ?_
  rintro e w8 ⟨rfl, hb8⟩
  have HB8 := Lib.hid (HB7.out.trans (hb8.mono HB7.out.size))
  clear hb8
  go_wp2_with fail
  go_ret
  exact ⟨rfl, HB8.out⟩
end Go.Proofs.YtlpjcfiibbcdjaaGreatDoor
