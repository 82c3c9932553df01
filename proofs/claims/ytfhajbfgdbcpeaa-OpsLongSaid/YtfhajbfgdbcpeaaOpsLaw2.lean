/- ops: the walk of OpsLong. No condition. -/
import Derived.Test.YtfhajbfgdbcpeaaOpsFix
import Derived.Test.YtfhajbfgdbcpeaaOpsPlain4
import Derived.Laws.MakeOwn
namespace Go.Proofs.Ytfhajbfgdbcpeaa
open Go.ChangeShapes Go.WideShapes Go.ChangeAt Go.RowKit
theorem make_zero (n : Nat) : madeCells #[.int .u8 0] n = Array.replicate n (encB 0) := by
  apply Array.ext
  · simp [madeCells]
  · intro i h1 h2
    simp [madeCells, encB, Nat.mod_one]
theorem make_bytes (w : World) (n : Nat) (h : n ≤ 1048576) : (Instr.makeSlice 25 (.int .i64 n) (.int .i64 n)).run Try.prog w = .ok (.slice (some ⟨w.heap.size, 0, none⟩) n n) (w.alloc (.cells (Array.replicate n (encB 0)) 5)) := by
  obtain ⟨i, hi, hz0, hz1, hz2⟩ := info_parts info_u8
  have hr := run_makeSlice (P := Try.prog) (w := w) 25 5 i (.int .u8 0) Try.underlying25 hi hz0 .i64 .i64 n n (by omega) (Int.le_refl _) (by rw [hz1]; omega) (by rw [hz2]; omega) (by omega)
  rw [hz1] at hr
  simp only [Int.toNat_natCast, Nat.mul_one] at hr
  rw [show (Value.int IntKind.u8 0).cells = #[.int .u8 0] from rfl, make_zero] at hr
  exact hr
set_option maxRecDepth 100000 in
set_option maxHeartbeats 8000000 in
theorem walk_OpsLong (x : Int) (w : World) (h0 : (Lit.int .u8 x).wf = true) :
    Calls Try.prog 6 #[.int .u8 x] w fun e w' => e = .returned (.bool true) ∧ Below w.heap.size w w' := by
  obtain ⟨b0, b1⟩ := bounds_u8 h0
  obtain ⟨k, rfl⟩ : ∃ k : Nat, x = k := ⟨x.toNat, by omega⟩
  obtain ⟨q, hq⟩ : ∃ q : Nat, q = k % 7 := ⟨_, rfl⟩
  obtain ⟨n, hn⟩ : ∃ n : Nat, n = 4093 + q := ⟨_, rfl⟩
  have hn2 : n ≤ 4099 := by omega
  have hn1 : 4093 ≤ n := by omega
  have hq1 : (k : Int).tmod 7 = (q : Int) := by rw [Int.tmod_eq_emod_of_nonneg (by omega)]; omega
  have hq2 : (4093 : Int) + (q : Int) = (n : Int) := by omega
  have hq7 : q < 7 := by omega
  have HF := Lib.hid (fixed13 w)
  clear h0 hq hn
  go_enter Try.func6, Try.ntmps6
  go_wp2_with fail
  refine HF.out.mono ?_
  rintro e w1 ⟨rfl, hb1⟩
  have HB1 := Lib.hid hb1
  clear hb1
  go_wp2_with fail
  clear hq1 hq2 hq7
  go_loopg [17, 4] n (fun gn i v wr => ∃ j : Nat, j ≤ n ∧ gn = n - j ∧ i = .int .i64 j ∧ Hid (wr.ownsRow w.heap.size 36 4 v j ((nopsL j).flatMap RW.cells)) ∧ Hid (Below w.heap.size w wr))
  case atStart => exact ⟨0, by omega, by omega, by go_num, Lib.hid (World.ownsRow_nil _ _ _ _), HB1⟩
  case round =>
    obtain ⟨j, hj, rfl, rfl, HO, HB⟩ := hrel
    by_cases hlt : j < n
    · go_wp2_with (at_builtin; first
        | (refine wpList_appS_lit stR rfl _ _ rfl w.heap.size _ _ _ rfl HO.out _ 1 _ _ rfl rfl rfl rfl (by omega) (by unfold maxLen; omega) HB.out.size ?_; intro v4 w4 hown4 hg4 hb4; have HO4 := Lib.hid hown4; have HB4 := Lib.hid (HB.out.trans hb4); clear hown4 hg4 hb4))
      go_roundg (n - (j + 1))
      case measure => omega
      case rel => exact ⟨j + 1, by omega, rfl, by go_num, Lib.hid (by rw [nopsL_succ, List.flatMap_append]; exact HO4.out), HB4⟩
    · obtain rfl : j = n := by omega
      obtain ⟨va, vc, rfl, hss, hcc⟩ := Ss.ofOwn RW.cells_length (by decide) HO.out
      have HEN := Lib.hid (Encode_any wr va j vc (nopsL j) hss (by omega) (fun r hr => by
        unfold nopsL at hr
        obtain ⟨i, hi, rfl⟩ := List.mem_map.1 hr
        have hi2 : i < j := by simpa using hi
        exact ⟨intRo_of (by unfold nopR; simp only; omega), intRo_of (by unfold nopR; simp only; omega), by show (0 : Nat) < 256; decide⟩))
      rw [encode_nops] at HEN
      clear hss
      go_wp2_with fail
      refine HEN.out.mono ?_
      rintro e w5 ⟨a5, m5, c5, rfl, hs5, hc5, hb5⟩
      have HS5 := Lib.hid hs5
      have HB5 := Lib.hid (HB.out.trans (hb5.mono HB.out.size))
      clear hs5 hb5
      have hmk := make_bytes w5 j (by omega)
      have HSZ := Lib.hid (show Sl encB (w5.alloc (.cells (Array.replicate j (encB 0)) 5)) (some ⟨w5.heap.size, 0, none⟩) j (List.replicate j 0) from Sl.lit (heap_alloc_last w5 _) (by simp) (by simp))
      have HDE := Lib.hid (Decode_any _ _ j j _ HSZ.out (by omega) (Nat.le_refl _))
      have HBA := Lib.hid (HB5.out.alloc HB5.out.size (.cells (Array.replicate j (encB 0)) 5))
      have HD1 := Lib.hid (decode_nops j)
      unfold DecodeRet at HDE
      rw [HD1.out] at HDE
      by_cases h4 : 4096 < j
      · have e1 : decide ((4096 : Int) < j) = true := by simp; omega
        rw [if_pos h4] at HDE HS5 ⊢
        go_wp2_with fail
        refine HDE.out.mono ?_
        rintro e w6 ⟨v6, m6, rfl, _, _, hb6⟩
        have HB6 := Lib.hid (HBA.out.trans (hb6.mono HBA.out.size))
        clear hb6
        go_wp2_with fail
        go_ret
        exact ⟨rfl, HB6.out⟩
      · have e1 : decide ((4096 : Int) < j) = false := by simp; omega
        rw [if_neg h4] at HDE HS5 ⊢
        have hm5 : m5 = j := by have h := HS5.out.1; rw [encL_nops] at h; exact h.symm
        subst hm5
        go_wp2_with fail
        refine HDE.out.mono ?_
        rintro e w6 ⟨v6, m6, rfl, _, _, hb6⟩
        have HB6 := Lib.hid (HBA.out.trans (hb6.mono HBA.out.size))
        clear hb6
        go_wp2_with fail
        go_ret
        exact ⟨rfl, HB6.out⟩
end Go.Proofs.Ytfhajbfgdbcpeaa
