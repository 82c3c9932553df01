/- The laws of layer 4: what the document fixes. No condition. -/
import Derived.Test.YtdnnodpchjnleaaPageFn3
namespace Go.Proofs.Ytdnnodpchjnleaa
open Go.ChangeShapes Go.WideShapes Go.ChangeAt Go.RowKit
theorem fixed04_head : headR (headB 1 ++ [0, 255, 255, 255]) = ⟨1, true, false, 0⟩ := by
  have h : (headR (headB 1 ++ [0, 255, 255, 255])).seq = 1 ∧ (headR (headB 1 ++ [0, 255, 255, 255])).live = true ∧ (headR (headB 1 ++ [0, 255, 255, 255])).void = false ∧ (headR (headB 1 ++ [0, 255, 255, 255])).err = 0 := by decide +kernel
  obtain ⟨h1, h2, h3, h4⟩ := h
  generalize headR (headB 1 ++ [0, 255, 255, 255]) = r at *
  cases r
  simp_all
theorem fixed04_nil : headR [] = ⟨0, false, false, 6⟩ := rfl

set_option maxRecDepth 100000 in
set_option maxHeartbeats 2000000 in
theorem fixed04_any (w : World) : Calls Try.prog 6 #[] w fun e w' => e = .returned (.bool true) ∧ Below w.heap.size w w' := by
  go_enter Try.func6, Try.ntmps6
  go_wp2_with fail
  refine (Bytes_any _ 1 (by decide)).mono ?_
  rintro e w1 ⟨v1, m1, rfl, hown1, hb1⟩
  have hm1 := hown1.1
  rw [List.length_map, headB_length] at hm1
  obtain rfl : m1 = 8 := by omega
  have HO := Lib.hid hown1
  have H1 := Lib.hid hb1
  clear hown1 hb1 hm1
  go_wp2_with (at_builtin; refine wpList_app_lit oneN rfl _ _ rfl w.heap.size _ _ _ rfl HO.out _ 4 _ rfl rfl rfl (by omega) (by unfold maxLen; omega) H1.out.size ?_; intro v2 w2 hown2 hg2 hb2; have HO2 := Lib.hid hown2; have HB2 := Lib.hid (H1.out.trans hb2); clear hown2 hg2 hb2)
  have hown2 := HO2.out
  rw [show (headB 1).map encB ++ (#[Value.int .u8 0, Value.int .u8 255, Value.int .u8 255, Value.int .u8 255] : Array Value).toList = (headB 1 ++ [0, 255, 255, 255]).map encB by rw [List.map_append]; rfl] at hown2
  obtain ⟨a2, cap2, rfl, hsl2, hmc⟩ := Sl.ofOwn hown2
  have HS2 := Lib.hid hsl2
  clear hown2 hsl2
  refine (Parse_any _ _ _ _ _ HS2.out (by decide) hmc).mono ?_
  rw [fixed04_head]
  rintro e w3 ⟨rfl, hb3⟩
  unfold headV
  have H3 := Lib.hid (HB2.out.trans (hb3.mono HB2.out.size))
  clear hb3
  go_wp2_with fail
  have H4 := Lib.hid (H3.out.alloc H3.out.size (Obj.cells #[.int .u32 1, .bool true, .bool false] 26))
  have h4 := heap_alloc_last w3 (Obj.cells #[.int .u32 1, .bool true, .bool false] 26)
  have hlt4 : w3.heap.size < (w3.alloc (Obj.cells #[.int .u32 1, .bool true, .bool false] 26)).heap.size := by simp
  refine (Parse_any _ none 0 0 [] (Sl.nil _ _) (by decide) (by decide)).mono ?_
  rw [fixed04_nil]
  rintro e w5 ⟨rfl, hb5⟩
  unfold headV
  have h5 := h4
  rw [← hb5.block _ hlt4] at h5
  have H5 := Lib.hid (H4.out.trans (hb5.mono H4.out.size))
  have hlt5 : w3.heap.size < w5.heap.size := Nat.lt_of_lt_of_le hlt4 hb5.size
  have h6 : (w5.alloc (Obj.cells #[.int .u32 0, .bool false, .bool false] 26)).heap[w3.heap.size]? = some (.cells #[.int .u32 1, .bool true, .bool false] 26) := by rw [Below.heap_alloc _ _ _ hlt5]; exact h5
  have H6 := Lib.hid h6
  have H7 := Lib.hid (H5.out.alloc H5.out.size (Obj.cells #[.int .u32 0, .bool false, .bool false] 26))
  have hlt6 : w3.heap.size < (w5.alloc (Obj.cells #[.int .u32 0, .bool false, .bool false] 26)).heap.size := by simp; omega
  clear hb5 h4 hlt4 h5 h6
  go_wp2_with fail
  refine (Bytes_any _ 1 (by decide)).mono ?_
  rintro e w8 ⟨v8, m8, rfl, hown8, hb8⟩
  have hm8 := hown8.1
  rw [List.length_map, headB_length] at hm8
  obtain rfl : m8 = 8 := by omega
  obtain ⟨a8, cap8, rfl, _, _⟩ := Sl.ofOwn hown8
  have h8 := H6.out
  rw [← hb8.block _ hlt6] at h8
  have H8 := Lib.hid (H7.out.trans (hb8.mono H7.out.size))
  have q0 : w8.cell? ⟨w3.heap.size, 0, none⟩ = some (.int .u32 1) := by rw [cell_of_row w8 _ 0 _ _ _ h8]; rfl
  have q1 : w8.cell? ⟨w3.heap.size, 1, none⟩ = some (.bool true) := by rw [cell_of_row w8 _ 1 _ _ _ h8]; rfl
  have q2 : w8.cell? ⟨w3.heap.size, 2, none⟩ = some (.bool false) := by rw [cell_of_row w8 _ 2 _ _ _ h8]; rfl
  clear hown8 hb8 hm8 h8 hlt5 hlt6
  go_wp2
  go_ret
  exact ⟨by simp, H8.out⟩
end Go.Proofs.Ytdnnodpchjnleaa
