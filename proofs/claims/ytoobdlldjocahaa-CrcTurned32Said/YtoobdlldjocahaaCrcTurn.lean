/- CrcTurned16, CrcTurned32: the walks. No condition. -/
import Derived.Test.YtoobdlldjocahaaCrcLaw
namespace Go.Proofs.Ytoobdlldjocahaa
open Go.ChangeShapes Go.WideShapes Go.ChangeAt Go.RowKit

set_option maxRecDepth 100000 in
set_option maxHeartbeats 1000000 in
theorem walk_CrcTurned16 (a : Option Addr) (n cap : Nat) (z : List Int) (at_ by_ : Int) (w : World) (h0 : IsRow .u8 w a n cap z) (hat : (Lit.int .u16 at_).wf = true) (hby : (Lit.int .u16 by_).wf = true) :
    Calls Try.prog 5 #[.slice a n cap, .int .u16 at_, .int .u16 by_] w fun e w' => e = .returned (.bool true) ∧ Below w.heap.size w w' := by
  obtain ⟨at0, at1⟩ := bounds_u16 hat
  obtain ⟨p, rfl⟩ := Int.eq_ofNat_of_zero_le at0
  obtain ⟨by0, by1⟩ := bounds_u16 hby
  obtain ⟨bs, hB, hm⟩ := Bs.ofRow h0
  unfold maxLen at hm
  clear h0 hat hby
  have HB := Lib.hid hB
  clear hB
  go_enter Try.func5, Try.ntmps5
  go_wp2_with fail
  refine (fixed03_any _).mono ?_
  rintro e w1 ⟨rfl, hb1⟩
  by_cases hn : 2000 < n
  · go_wp2_with fail
    go_ret
    exact ⟨rfl, hb1⟩
  have ho0 := own_empty w1 w.heap.size 5 hb1.size
  have HO0 := Lib.hid ho0
  have hb2 := hb1.alloc hb1.size (Obj.cells #[] 5)
  have HB2 := Lib.hid hb2
  clear ho0 hb2
  go_wp2_with (first
    | (at_builtin; refine wpList_app rfl _ _ _ rfl w.heap.size _ 0 [] rfl HO0.out _ n bs rfl ((HB.out.below HB2.out).src Try.underlying22 _) (by omega) HB2.out.size ?_; intro v1 w5 hown1 hg1; have HB3 := Lib.hid (below_app HB2.out HB2.out.size HO0.out hg1)))
  obtain ⟨a2, cap2, rfl, hB2, _⟩ := Bs.ofOwn hown1
  clear hg1 hB2
  simp only [Nat.zero_add] at hown1 ⊢
  have HO1 := Lib.hid hown1
  clear hown1
  have hbs : bs.length = n := HB.out.1
  have HL := Lib.hid hbs
  clear hbs
  go_loopw [8, 19] (fun t i wr => ∃ k : Nat, k ≤ 16 ∧ i = .int .i64 k ∧ ∃ (cs : List UInt8) (W : BitVec 16), t = .bool (nz W) ∧ Hid (wr.ownsRow w.heap.size 5 1 (.slice a2 n cap2) n (cs.map encB)) ∧ Hid (Below w.heap.size w wr) ∧
      Hid (crc16 0xFFFF#16 cs = crc16 0xFFFF#16 bs ^^^ iter T16 (8 * n - p) W) ∧ Hid (∀ j, j < 16 - k → W.getLsbD j = false)) (fun _ i _ => 16 - (intOf i).toNat)
  case atStart => exact ⟨0, by omega, rfl, bs, 0#16, rfl, HO1, HB3, by show _ = _; rw [iter16_0]; simp, fun j _ => by simp⟩
  case round =>
    obtain ⟨k, hk, rfl, cs, W, rfl, HO, HW, HC, HV⟩ := hrel
    by_cases hlt : k < 16
    · have hb0 : 0 ≤ by_ / 2 ^ k := Int.ediv_nonneg by0 (Int.pow_nonneg (by decide))
      by_cases hbit : (by_ / 2 ^ k) % 2 = 1
      · have hbB : ((by_ / 2 ^ k) % 2 == 1) = true := by simp [hbit]
        clear hbit
        by_cases hin : p + k < 8 * n
        · obtain ⟨g, rfl, hg0, hg1⟩ := own_addr HO.out (by omega)
          have hcl : cs.length = n := by have := HO.out.1; simpa using this
          have hq : (p + k) / 8 < cs.length := by omega
          have hq' : (p + k) / 8 < n := by omega
          have hcell := own_cellB HO.out ((p + k) / 8) hq
          have hfr := HO.out.frozenAt ((p + k) / 8)
          clear hcl
          obtain ⟨y, V, e1, e2, e3, e4⟩ := turn16_step 0xFFFF#16 bs cs n p k W (by have := HO.out.1; simpa using this) hlt hin hq HC.out HV.out
          obtain ⟨x, hx⟩ : ∃ x, x = cs[(p + k) / 8] := ⟨_, rfl⟩
          rw [← hx] at hcell e1
          have H1 := Lib.hid e1
          have H2 := Lib.hid e2
          have H3 := Lib.hid e3
          have H4 := Lib.hid e4
          clear e1 e2 e3 e4 hx
          have hu := u8_lt x
          go_wp2_with fail
          go_roundw
          case rel =>
            rw [H1.out]
            have hst := HO.out.stored ((p + k) / 8) (encB y)
            refine ⟨k + 1, by omega, by go_num, cs.set ((p + k) / 8) y, V, by rw [H4.out], ?_, HW.out.setCell hg0 _, H2.out, H3.out⟩
            show World.ownsRow _ _ _ _ _ _ _
            rw [List.map_set]
            exact hst.1
          case measure => simp [intOf]; omega
        · go_wp2_with fail
          go_roundw
          case rel => exact ⟨k + 1, by omega, by go_num, cs, W, rfl, HO, HW, HC, fun j hj => HV.out j (by omega)⟩
          case measure => simp [intOf]; omega
      · have hbB : ((by_ / 2 ^ k) % 2 == 1) = false := by simp [hbit]
        clear hbit
        go_wp2_with fail
        go_roundw
        case rel => exact ⟨k + 1, by omega, by go_num, cs, W, rfl, HO, HW, HC, fun j hj => HV.out j (by omega)⟩
        case measure => simp [intOf]; omega
    · obtain ⟨_, _, hv, hBc, _⟩ := Bs.ofOwn HO.out
      simp only [Value.slice.injEq, true_and] at hv
      obtain ⟨rfl, rfl⟩ := hv
      have hS : ∀ xs : List UInt8, xs.foldl upByte 65535 = E (crc16 0xFFFF#16 xs) := fun xs => by rw [E_of (n := 16) (x := 65535) (by decide) (by decide), up_crc]; rfl
      have hEnd := turn_end T16_zero iter16_0 HC.out
      rw [← E_inj, ← hS, ← hS] at hEnd
      have HE := Lib.hid hEnd
      have HBc := Lib.hid hBc
      clear hS hEnd hBc
      go_wp2_with fail
      refine (Sum16_any _ _ _ _ _ HBc.out (by omega)).mono ?_
      rintro e w6 ⟨rfl, hb6⟩
      have hb7 := HW.out.trans (hb6.mono HW.out.size)
      obtain ⟨u, hu⟩ : ∃ u, u = cs.foldl upByte 65535 := ⟨_, rfl⟩
      rw [← hu] at HE ⊢
      clear hu
      go_wp2_with fail
      refine (Sum16_any _ _ _ _ _ (HB.out.below hb7) (by omega)).mono ?_
      rintro e w8 ⟨rfl, hb8⟩
      have hb9 := hb7.trans (hb8.mono hb7.size)
      obtain ⟨v, hv⟩ : ∃ v, v = bs.foldl upByte 65535 := ⟨_, rfl⟩
      rw [← hv] at HE ⊢
      clear hv
      obtain ⟨t, ht⟩ : ∃ t, t = nz W := ⟨_, rfl⟩
      rw [← ht] at HE ⊢
      clear ht
      have hiff := HE.out
      clear HE
      cases t
      · have huv : u = v := hiff.2 rfl
        subst huv
        clear hiff
        go_wp2_with fail
        go_ret
        exact ⟨rfl, hb9⟩
      · have huv : (u == v) = false := by
          have : ¬ u = v := fun h => by have := hiff.1 h; simp at this
          simpa using this
        have huw : (u != v) = true := by simpa [bne] using huv
        clear hiff
        go_wp2_with fail
        go_ret
        exact ⟨rfl, hb9⟩
set_option maxRecDepth 100000 in
set_option maxHeartbeats 1000000 in
theorem walk_CrcTurned32 (a : Option Addr) (n cap : Nat) (z : List Int) (at_ by_ : Int) (w : World) (h0 : IsRow .u8 w a n cap z) (hat : (Lit.int .u16 at_).wf = true) (hby : (Lit.int .u32 by_).wf = true) :
    Calls Try.prog 6 #[.slice a n cap, .int .u16 at_, .int .u32 by_] w fun e w' => e = .returned (.bool true) ∧ Below w.heap.size w w' := by
  obtain ⟨at0, at1⟩ := bounds_u16 hat
  obtain ⟨p, rfl⟩ := Int.eq_ofNat_of_zero_le at0
  obtain ⟨by0, by1⟩ := bounds_u32 hby
  obtain ⟨bs, hB, hm⟩ := Bs.ofRow h0
  unfold maxLen at hm
  clear h0 hat hby
  have HB := Lib.hid hB
  clear hB
  go_enter Try.func6, Try.ntmps6
  go_wp2_with fail
  refine (fixed03_any _).mono ?_
  rintro e w1 ⟨rfl, hb1⟩
  by_cases hn : 2000 < n
  · go_wp2_with fail
    go_ret
    exact ⟨rfl, hb1⟩
  have ho0 := own_empty w1 w.heap.size 5 hb1.size
  have HO0 := Lib.hid ho0
  have hb2 := hb1.alloc hb1.size (Obj.cells #[] 5)
  have HB2 := Lib.hid hb2
  clear ho0 hb2
  go_wp2_with (first
    | (at_builtin; refine wpList_app rfl _ _ _ rfl w.heap.size _ 0 [] rfl HO0.out _ n bs rfl ((HB.out.below HB2.out).src Try.underlying22 _) (by omega) HB2.out.size ?_; intro v1 w5 hown1 hg1; have HB3 := Lib.hid (below_app HB2.out HB2.out.size HO0.out hg1)))
  obtain ⟨a2, cap2, rfl, hB2, _⟩ := Bs.ofOwn hown1
  clear hg1 hB2
  simp only [Nat.zero_add] at hown1 ⊢
  have HO1 := Lib.hid hown1
  clear hown1
  have hbs : bs.length = n := HB.out.1
  have HL := Lib.hid hbs
  clear hbs
  go_loopw [8, 19] (fun t i wr => ∃ k : Nat, k ≤ 32 ∧ i = .int .i64 k ∧ ∃ (cs : List UInt8) (W : BitVec 32), t = .bool (nz W) ∧ Hid (wr.ownsRow w.heap.size 5 1 (.slice a2 n cap2) n (cs.map encB)) ∧ Hid (Below w.heap.size w wr) ∧
      Hid (crc32 0xFFFFFFFF#32 cs = crc32 0xFFFFFFFF#32 bs ^^^ iter D32 (8 * n - p) W) ∧ Hid (∀ j, k ≤ j → W.getLsbD j = false)) (fun _ i _ => 32 - (intOf i).toNat)
  case atStart => exact ⟨0, by omega, rfl, bs, 0#32, rfl, HO1, HB3, by show _ = _; rw [iter32_0]; simp, fun j _ => by simp⟩
  case round =>
    obtain ⟨k, hk, rfl, cs, W, rfl, HO, HW, HC, HV⟩ := hrel
    by_cases hlt : k < 32
    · have hb0 : 0 ≤ by_ / 2 ^ k := Int.ediv_nonneg by0 (Int.pow_nonneg (by decide))
      by_cases hbit : (by_ / 2 ^ k) % 2 = 1
      · have hbB : ((by_ / 2 ^ k) % 2 == 1) = true := by simp [hbit]
        clear hbit
        by_cases hin : p + k < 8 * n
        · obtain ⟨g, rfl, hg0, hg1⟩ := own_addr HO.out (by omega)
          have hcl : cs.length = n := by have := HO.out.1; simpa using this
          have hq : (p + k) / 8 < cs.length := by omega
          have hq' : (p + k) / 8 < n := by omega
          have hcell := own_cellB HO.out ((p + k) / 8) hq
          have hfr := HO.out.frozenAt ((p + k) / 8)
          clear hcl
          obtain ⟨y, V, e1, e2, e3, e4⟩ := turn32_step 0xFFFFFFFF#32 bs cs n p k W (by have := HO.out.1; simpa using this) hlt hin hq HC.out HV.out
          obtain ⟨x, hx⟩ : ∃ x, x = cs[(p + k) / 8] := ⟨_, rfl⟩
          rw [← hx] at hcell e1
          have H1 := Lib.hid e1
          have H2 := Lib.hid e2
          have H3 := Lib.hid e3
          have H4 := Lib.hid e4
          clear e1 e2 e3 e4 hx
          have hu := u8_lt x
          go_wp2_with fail
          go_roundw
          case rel =>
            rw [H1.out]
            have hst := HO.out.stored ((p + k) / 8) (encB y)
            refine ⟨k + 1, by omega, by go_num, cs.set ((p + k) / 8) y, V, by rw [H4.out], ?_, HW.out.setCell hg0 _, H2.out, H3.out⟩
            show World.ownsRow _ _ _ _ _ _ _
            rw [List.map_set]
            exact hst.1
          case measure => simp [intOf]; omega
        · go_wp2_with fail
          go_roundw
          case rel => exact ⟨k + 1, by omega, by go_num, cs, W, rfl, HO, HW, HC, fun j hj => HV.out j (by omega)⟩
          case measure => simp [intOf]; omega
      · have hbB : ((by_ / 2 ^ k) % 2 == 1) = false := by simp [hbit]
        clear hbit
        go_wp2_with fail
        go_roundw
        case rel => exact ⟨k + 1, by omega, by go_num, cs, W, rfl, HO, HW, HC, fun j hj => HV.out j (by omega)⟩
        case measure => simp [intOf]; omega
    · obtain ⟨_, _, hv, hBc, _⟩ := Bs.ofOwn HO.out
      simp only [Value.slice.injEq, true_and] at hv
      obtain ⟨rfl, rfl⟩ := hv
      have hS : ∀ xs : List UInt8, xs.foldl downByte 4294967295 = E (crc32 0xFFFFFFFF#32 xs) := fun xs => by rw [E_of (n := 32) (x := 4294967295) (by decide) (by decide), down_crc]; rfl
      have hEnd := turn_end D32_zero iter32_0 HC.out
      rw [← not32_inj, ← hS, ← hS] at hEnd
      have HE := Lib.hid hEnd
      have HBc := Lib.hid hBc
      clear hS hEnd hBc
      go_wp2_with fail
      refine (Sum32_any _ _ _ _ _ HBc.out (by omega)).mono ?_
      rintro e w6 ⟨rfl, hb6⟩
      have hb7 := HW.out.trans (hb6.mono HW.out.size)
      obtain ⟨u, hu⟩ : ∃ u, u = not32 (cs.foldl downByte 4294967295) := ⟨_, rfl⟩
      rw [← hu] at HE ⊢
      clear hu
      go_wp2_with fail
      refine (Sum32_any _ _ _ _ _ (HB.out.below hb7) (by omega)).mono ?_
      rintro e w8 ⟨rfl, hb8⟩
      have hb9 := hb7.trans (hb8.mono hb7.size)
      obtain ⟨v, hv⟩ : ∃ v, v = not32 (bs.foldl downByte 4294967295) := ⟨_, rfl⟩
      rw [← hv] at HE ⊢
      clear hv
      obtain ⟨t, ht⟩ : ∃ t, t = nz W := ⟨_, rfl⟩
      rw [← ht] at HE ⊢
      clear ht
      have hiff := HE.out
      clear HE
      cases t
      · have huv : u = v := hiff.2 rfl
        subst huv
        clear hiff
        go_wp2_with fail
        go_ret
        exact ⟨rfl, hb9⟩
      · have huv : (u == v) = false := by
          have : ¬ u = v := fun h => by have := hiff.1 h; simp at this
          simpa using this
        have huw : (u != v) = true := by simpa [bne] using huv
        clear hiff
        go_wp2_with fail
        go_ret
        exact ⟨rfl, hb9⟩
end Go.Proofs.Ytoobdlldjocahaa
