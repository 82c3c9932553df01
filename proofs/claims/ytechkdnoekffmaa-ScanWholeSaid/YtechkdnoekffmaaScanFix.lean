/- scan: the law's fixed calls. No condition. -/
import Derived.Test.YtechkdnoekffmaaScanSec
namespace Go.Proofs.Ytechkdnoekffmaa
open Go.ChangeShapes Go.WideShapes Go.ChangeAt Go.RowKit
def fixR : RV := ⟨1, 2, [97], [], 0⟩
theorem fixR_sector : hdB ++ (recB 1 2 [97] [] 0 ++ [0]) = sectorB hdB [fixR] 0 := by unfold sectorB RV.bytes fixR; simp
theorem nil_sector : hdB ++ [255, 255] = sectorB hdB [] 2 := by unfold sectorB; simp [List.replicate]
set_option maxRecDepth 100000 in
set_option maxHeartbeats 4000000 in
theorem fixed06 (w : World) : Calls Try.prog 5 #[] w fun e w' => e = .returned (.bool true) ∧ Below w.heap.size w w' := by
  go_enter Try.func5, Try.ntmps5
  go_wp2_with fail
  have H0 := Lib.hid ((Below.refl w.heap.size w).alloc (Nat.le_refl _) (Obj.cells #[.int .u8 255, .int .u8 255] 5))
  have HS0 := Lib.hid (Sl.lit (enc := encB) (n := 2) (xs := [255, 255]) (heap_alloc_last w (Obj.cells #[.int .u8 255, .int .u8 255] 5)) rfl rfl)
  refine (sector_any _ _ 2 2 [255, 255] HS0.out (by decide)).mono ?_
  rintro e w1 ⟨a1, c1, rfl, hs1, hc1, hb1⟩
  rw [nil_sector] at hs1
  have H1 := Lib.hid (H0.out.trans (hb1.mono H0.out.size))
  have hP := Scan_whole w1 a1 14 c1 hdB [] 2 hdB_length hs1 (by decide) hc1 (fun r h => by cases h) 8 (by decide) hdB_eight
  clear hs1 hc1 hb1
  go_wp2_with fail
  refine hP.mono ?_
  clear hP
  rintro e w2 ⟨v2, F2, rfl, hF2, _, hb2⟩
  obtain ⟨a2, c2, rfl⟩ := hF2.slice
  have H2 := Lib.hid (H1.out.trans (hb2.mono H1.out.size))
  clear hF2 hb2
  rw [show ((12 + total ([] : List RV) : Nat) : Int) = 12 from rfl]
  go_wp2_with fail
  refine (refBytes5_any w2 1 2 [97] none 0 0 [] 0 (Sl.nil _ _) (by decide) (by decide)).mono ?_
  rintro e w3 ⟨a3, n3, c3, rfl, hs3, hc3, hb3⟩
  obtain rfl : n3 = 16 := by have h := hs3.1; rw [recB_length] at h; exact h.symm
  have H3 := Lib.hid (H2.out.trans (hb3.mono H2.out.size))
  have HS3 := Lib.hid hs3
  clear hs3 hc3 hb3
  go_wp2_with fail
  refine (sector_own w3 a3 16 c3 _ HS3.out (by decide)).mono ?_
  rintro e w4 ⟨v4, rfl, ho4, hb4⟩
  have HO4 := Lib.hid ho4
  have HB4 := Lib.hid hb4
  clear ho4 hb4
  go_wp2_with (at_builtin; first
    | (refine wpList_app_lit oneB rfl _ _ rfl w3.heap.size _ 28 _ rfl HO4.out _ 1 _ rfl rfl rfl (by omega) (by unfold maxLen; omega) HB4.out.size ?_; intro v5 w5 hown5 hg5 hb5; have HO5 := Lib.hid hown5; have HB5 := Lib.hid (H3.out.trans ((HB4.out.trans hb5).mono H3.out.size)); clear hown5 hg5 hb5 HO4))
  have h5 : w5.ownsRow w3.heap.size 5 1 v5 29 ((sectorB hdB [fixR] 0).map encB) := by
    rw [← fixR_sector, ← List.append_assoc, List.map_append]
    exact HO5.out
  obtain ⟨a5, c5, rfl, hs5, hc5⟩ := Sl.ofOwn h5
  refine (Scan_whole w5 a5 29 c5 hdB [fixR] 0 hdB_length hs5 (by decide) hc5 (fun r h => by
    obtain rfl := List.mem_singleton.1 h
    exact ⟨by decide, by decide⟩) 8 (by decide) hdB_eight).mono ?_
  clear h5 hs5 hc5
  rintro e w6 ⟨v6, F6, rfl, hF6, hT6, hb6⟩
  have H6 := Lib.hid (HB5.out.trans (hb6.mono HB5.out.size))
  obtain ⟨g6, c6, rfl, _, hc6, f, _, hf, p0, _⟩ := hF6.at 0 (by decide)
  have hp : f.pos = 12 := by
    cases F6 with
    | nil => simp at hf
    | cons f' F' => simp at hf; subst hf; exact hT6.1.1
  rw [hp] at p0
  clear hF6 hT6 hb6 hf hp
  rw [show ((12 + total [fixR] : Nat) : Int) = 29 from rfl]
  go_wp2_with fail
  go_ret
  exact ⟨rfl, H6.out⟩
end Go.Proofs.Ytechkdnoekffmaa
