/- fetch: the walk of FetchTurned. No condition. -/
import Derived.Test.YtikkkmfddhijeaaFetchLaw
namespace Go.Proofs.Ytikkkmfddhijeaa
open Go.ChangeShapes Go.WideShapes Go.ChangeAt Go.RowKit
theorem wantR_whole (n : Nat) (h1 : 1 ≤ n) (h2 : n ≤ 1024) : wantR n n 0 = (0, (n : Int)) := by
  rw [wantR_yes ⟨decide_eq_true ⟨by omega, by omega, by omega, by omega, .inr ⟨by omega, by simp⟩⟩, by omega⟩, show min (n : Int) ((n : Int) - ((0 : Nat) : Int)) = (n : Int) by omega]
  rfl
theorem jobOk_whole (n : Nat) (h1 : 1 ≤ n) (h2 : n ≤ 1024) : jobOk n n 0 = true := decide_eq_true ⟨by omega, by omega, by omega, by omega, .inr ⟨by omega, by simp⟩⟩
set_option maxRecDepth 100000 in
set_option maxHeartbeats 4000000 in
theorem walk_FetchTurned (a : Option Addr) (n cap : Nat) (z : List Int) (at_ by_ : Int) (w : World) (h0 : IsRow .u8 w a n cap z) (hat : (Lit.int .u16 at_).wf = true) (hby : (Lit.int .u32 by_).wf = true) :
    Calls Try.prog 7 #[.slice a n cap, .int .u16 at_, .int .u32 by_] w fun e w' => e = .returned (.bool true) ∧ Below w.heap.size w w' := by
  have hcap := Row.cap h0
  obtain ⟨at0, at1⟩ := bounds_u16 hat
  obtain ⟨p, rfl⟩ := Int.eq_ofNat_of_zero_le at0
  obtain ⟨by0, by1⟩ := bounds_u32 hby
  obtain ⟨bs, hB, hm⟩ := Bs.ofRow h0
  unfold maxLen at hm
  clear h0 hat hby
  have HB := Lib.hid hB.sl
  clear hB
  go_enter Try.func7, Try.ntmps7
  go_wp2_with fail
  refine (fixed30_any _).mono ?_
  rintro e w1 ⟨rfl, hb1⟩
  have H1 := Lib.hid hb1
  clear hb1
  by_cases hn1 : n < 1
  · go_wp2_with fail
    go_ret
    exact ⟨rfl, H1.out⟩
  by_cases hn2 : 1024 < n
  · go_wp2_with fail
    go_ret
    exact ⟨rfl, H1.out⟩
  go_wp2_with fail
  have h2 := New_any w1 n n (by unfold IntR; omega) (by unfold IntR; omega)
  rw [if_pos (jobOk_whole n (by omega) (by omega)), if_pos (jobOk_whole n (by omega) (by omega))] at h2
  refine h2.mono ?_
  clear h2
  rintro e w2 ⟨rfl, hb2⟩
  have H2 := Lib.hid (H1.out.trans ((hb2.alloc hb2.size (.cells #[.int .i64 n, .int .i64 n, .slice none 0 0] 24)).mono H1.out.size))
  have K7 := Lib.hid (show Blk3 (w2.alloc (.cells #[.int .i64 n, .int .i64 n, .slice none 0 0] 24)) w2.heap.size (.int .i64 n) (.int .i64 n) (.slice none 0 0) 24 from heap_alloc_last w2 _)
  clear hb2 H1
  go_wp2_with fail
  generalize w2.alloc (.cells #[.int .i64 n, .int .i64 n, .slice none 0 0] 24) = W2 at *
  have h3 := Serve_any W2 a n cap bs 0 n (HB.out.below H2.out) hcap (by omega) (by unfold partOk; omega)
  have hl := HB.out.1
  rw [show partL bs 0 n = bs by unfold partL; simp [← hl]] at h3
  refine h3.mono ?_
  clear h3
  rintro e w3 ⟨a2, n2, cap2, rfl, hown3, hb3⟩
  obtain rfl : n = n2 := by have := hown3.1; simp at this; omega
  have HO3 := Lib.hid hown3
  have HB3 := Lib.hid hb3
  have HL := Lib.hid hl
  clear hown3 hb3 hl
  go_wp2_with fail
  go_loopw [11, 41] (fun t i wr => ∃ k : Nat, k ≤ 32 ∧ i = .int .i64 k ∧ ∃ (cs : List UInt8) (W : BitVec 32), t = .bool (nz W) ∧ Hid (wr.ownsRow W2.heap.size 5 1 (.slice a2 n cap2) n (cs.map encB)) ∧ Hid (Below W2.heap.size W2 wr) ∧ Hid (Blk3 wr w3.heap.size (.int .i64 0) (.slice a2 n cap2) (.int .u32 (S32 bs)) 27) ∧
      Hid (crc32 0xFFFFFFFF#32 cs = crc32 0xFFFFFFFF#32 bs ^^^ iter D32 (8 * n - p) W) ∧ Hid (∀ j, k ≤ j → W.getLsbD j = false)) (fun _ i _ => 32 - (intOf i).toNat)
  case atStart => exact ⟨0, by omega, rfl, bs, 0#32, rfl, HO3.out.alloc _, HB3.out.alloc HB3.out.size _, heap_alloc_last w3 _, by show _ = _; rw [iter32_0]; simp, fun j _ => by simp⟩
  case round =>
    obtain ⟨k, hk, rfl, cs, W, rfl, HO, HW, HK, HC, HV⟩ := hrel
    obtain ⟨p0, p1, p2, f0, f1, f2, lt2⟩ := HK.out.box
    by_cases hlt : k < 32
    · have hb0 : 0 ≤ by_ / 2 ^ k := Int.ediv_nonneg by0 (Int.pow_nonneg (by decide))
      by_cases hbit : (by_ / 2 ^ k) % 2 = 1
      · have hbB : ((by_ / 2 ^ k) % 2 == 1) = true := by simp [hbit]
        clear hbit
        by_cases hin : p + k < 8 * n
        · obtain ⟨g, rfl, hg0, hg1⟩ := own_addr HO3.out (by omega)
          have hcl : cs.length = n := by have := HO.out.1; simpa using this
          have hq : (p + k) / 8 < cs.length := by omega
          have hq' : (p + k) / 8 < n := by omega
          have hcell := own_cellB HO.out ((p + k) / 8) hq
          have hfr := HO.out.frozenAt ((p + k) / 8)
          have hne : w3.heap.size ≠ g := by omega
          clear hcl
          obtain ⟨y, V, e1, e2, e3, e4⟩ := turn32_step 0xFFFFFFFF#32 bs cs n p k W (by have := HO.out.1; simpa using this) hlt hin hq HC.out HV.out
          obtain ⟨x, hx⟩ : ∃ x, x = cs[(p + k) / 8] := ⟨_, rfl⟩
          rw [← hx] at hcell e1
          have E1 := Lib.hid e1
          have E2 := Lib.hid e2
          have E3 := Lib.hid e3
          have E4 := Lib.hid e4
          clear e1 e2 e3 e4 hx
          have hu := u8_lt x
          go_wp2_with fail
          go_roundw
          case rel =>
            rw [E1.out]
            have hst := HO.out.stored ((p + k) / 8) (encB y)
            refine ⟨k + 1, by omega, by go_num, cs.set ((p + k) / 8) y, V, by rw [E4.out], ?_, HW.out.setCell hg0 _, HK.out.other hne, E2.out, E3.out⟩
            show World.ownsRow _ _ _ _ _ _ _
            rw [List.map_set]
            exact hst.1
          case measure => simp [intOf]; omega
        · go_wp2_with fail
          go_roundw
          case rel => exact ⟨k + 1, by omega, by go_num, cs, W, rfl, HO, HW, HK, HC, fun j hj => HV.out j (by omega)⟩
          case measure => simp [intOf]; omega
      · have hbB : ((by_ / 2 ^ k) % 2 == 1) = false := by simp [hbit]
        clear hbit
        go_wp2_with fail
        go_roundw
        case rel => exact ⟨k + 1, by omega, by go_num, cs, W, rfl, HO, HW, HK, HC, fun j hj => HV.out j (by omega)⟩
        case measure => simp [intOf]; omega
    · have hS : ∀ xs : List UInt8, xs.foldl downByte 4294967295 = E (crc32 0xFFFFFFFF#32 xs) := fun xs => by rw [E_of (n := 32) (x := 4294967295) (by decide) (by decide), down_crc]; rfl
      have hEnd := turn_end D32_zero iter32_0 HC.out
      rw [← not32_inj, ← hS, ← hS, s32_eq, s32_eq] at hEnd
      have hT : takesR n n 0 0 cs (S32 bs) = !nz W := by
        unfold takesR
        rw [wantR_whole n (by omega) (by omega)]
        have hcl : cs.length = n := by have := HO.out.1; simpa using this
        rw [Bool.eq_iff_iff]
        simp only [decide_eq_true_eq, Bool.not_eq_true', ← hEnd]
        constructor
        · intro h; exact h.2.2.2.symm
        · intro h; exact ⟨by omega, by trivial, by omega, h.symm⟩
      have HT := Lib.hid (Take_any wr n n none 0 0 [] 0 (S32 bs) a2 n cap2 cs (by unfold IntR; omega) (by unfold IntR; omega) (by omega) (Sl.nil _ _) (Sl.ofOwnS HO.out).1 (by omega))
      rw [hT] at HT
      have K7b := Lib.hid (K7.out.below HW.out)
      obtain ⟨p3, p4, p5, f3, f4, f5, lt3⟩ := K7b.out.box
      clear hS hEnd hT
      generalize nz W = t at HT
      go_wp2_with fail
      refine HT.out.mono ?_
      rintro e w6 ⟨a6, n6, c6, rfl, _, hb6⟩
      have H6 := Lib.hid (H2.out.trans ((HW.out.trans (hb6.mono HW.out.size)).mono H2.out.size))
      clear hb6
      cases t
      · go_wp2_with fail
        go_ret
        exact ⟨rfl, H6.out.alloc H6.out.size _⟩
      · go_wp2_with fail
        go_ret
        exact ⟨rfl, H6.out.alloc H6.out.size _⟩
end Go.Proofs.Ytikkkmfddhijeaa
