/- rec: the fixed calls. No condition. -/
import Derived.Test.YtkieconmbeblgaaRecFn10
namespace Go.Proofs.Ytkieconmbeblgaa
open Go.ChangeShapes Go.WideShapes Go.ChangeAt Go.RowKit
set_option maxRecDepth 100000 in
set_option maxHeartbeats 4000000 in
theorem fixed05_any (w : World) : Calls Try.prog 6 #[] w fun e w' => e = .returned (.bool true) ∧ Below w.heap.size w w' := by
  have h1 : Calls Try.prog 12 #[.agg #[.int .i64 3, .int .u32 1, .string ⟨#[]⟩, .slice none 0 0, .int .i64 0]] w fun e w' => ∃ a' n' cap', e = .returned (.tuple #[.slice a' n' cap', .int .i64 0]) ∧ Sl encB w' a' n' (recB 3 1 [] [] 0) ∧ n' ≤ cap' ∧ Below w.heap.size w w' :=
    Bytes5_any w 3 1 [] none 0 0 [] 0 (Sl.nil _ _) (by decide) (by omega)
  have H0 := Lib.hid h1
  clear h1
  go_enter Try.func6, Try.ntmps6
  go_wp2_with fail
  refine H0.out.mono ?_
  rintro e w1 ⟨a1, n1, c1, rfl, hsl1, hc1, hb1⟩
  obtain rfl : n1 = 15 := by have := hsl1.1; rw [recB_length] at this; simpa using this.symm
  have S1 := Lib.hid hsl1
  have H1 := Lib.hid hb1
  clear hsl1 hb1 H0
  have HO0 := Lib.hid (own_empty w1 w1.heap.size 5 (Nat.le_refl _))
  have HB0 := Lib.hid ((Below.refl w1.heap.size w1).alloc (Nat.le_refl _) (.cells #[] 5))
  go_wp2_with (at_builtin; first
    | (refine wpList_app_lit oneB rfl _ _ rfl w1.heap.size _ 15 _ rfl HO2.out _ 1 _ rfl rfl rfl (by omega) (by unfold maxLen; omega) HB2.out.size ?_; intro v3 w3 hown3 hg3 hb3; have hown3' : w3.ownsRow w1.heap.size 5 1 v3 16 ((recB 3 1 [] [] 0 ++ (0 : UInt8) :: []).map encB) := (by rw [List.map_append]; exact hown3); obtain ⟨a3, c3, hv3, hsl3, hc3⟩ := Sl.ofOwn hown3'; subst hv3; have S3 := Lib.hid hsl3; have H3 := Lib.hid (H1.out.trans ((HB2.out.trans hb3).mono H1.out.size)); clear hown3 hown3' hg3 hb3 hsl3)
    | (refine wpList_app1 oneB rfl _ _ _ rfl w1.heap.size _ _ _ rfl HO0.out _ _ _ rfl ((S1.out.below HB0.out).src encB_cell Try.underlying22 _) (by omega) (by unfold maxLen; omega) HB0.out.size ?_; intro v2 w2 hown2 hg2 hb2; rw [List.map_nil, List.nil_append, Nat.zero_add] at hown2; have HO2 := Lib.hid hown2; have HB2 := Lib.hid (HB0.out.trans hb2); clear hown2 hg2 hb2))
  have h4 := Parse_rec w3 a3 16 c3 3 1 [] [] 0 0 [] S3.out (by omega) hc3 (by decide) (by omega)
  refine h4.mono ?_
  clear h4
  rintro e w4 ⟨a4, m4, c4, rfl, _, hb4⟩
  have H4 := Lib.hid (H3.out.trans (hb4.mono H3.out.size))
  clear hb4
  go_wp2_with fail
  refine (Parse_none _ none 0 0 [] (Sl.nil _ _) (by omega) (.inl rfl)).mono ?_
  rintro e w5 ⟨rfl, hb5⟩
  have K3 := Lib.hid (show Blk5 w5 w4.heap.size (.int .i64 3) (.int .u32 1) (.string ⟨#[]⟩) (.slice a4 m4 c4) (.int .i64 0) 26 from Blk5.below (heap_alloc_last w4 _) hb5)
  have H5 := Lib.hid (H4.out.trans ((((Below.refl _ _).alloc (Nat.le_refl _) (.cells #[.int .i64 3, .int .u32 1, .string ⟨#[]⟩, .slice a4 m4 c4, .int .i64 0] 26)).trans (hb5.mono (by simp))).mono H4.out.size))
  clear hb5
  obtain ⟨p0, p1, p2, p3, p4, f0, f1, f2, f3, f4, lt1⟩ := K3.out.box
  go_wp2_with fail
  go_ret
  exact ⟨rfl, H5.out.alloc H5.out.size _⟩
end Go.Proofs.Ytkieconmbeblgaa
