/- carpetbaglaw03.fixed returns true, whatever the memory. No condition. -/
import Derived.Test.YtoobdlldjocahaaCrcPlain
namespace Go.Proofs.Ytoobdlldjocahaa
open Go.ChangeShapes Go.WideShapes Go.ChangeAt Go.RowKit

def nine : List UInt8 := [49, 50, 51, 52, 53, 54, 55, 56, 57]
theorem nine16 : nine.foldl upByte 65535 = 10673 := by
  rw [E_of (n := 16) (x := 65535) (by decide) (by decide), up_crc]
  decide +kernel
theorem max_u32 : IntKind.u32.max = 4294967295 := by decide
theorem nine32 : not32 (nine.foldl downByte 4294967295) = 3808858755 := by
  rw [E_of (n := 32) (x := 4294967295) (by decide) (by decide), down_crc]
  unfold not32
  rw [bits32_xor, of_E]
  decide +kernel

set_option maxHeartbeats 1000000 in
theorem fixed03_any (w : World) : Calls Try.prog 7 #[] w fun e w' => e = .returned (.bool true) ∧ Below w.heap.size w w' := by
  have kc := fun (w : World) (C : Array Value) (n c : Nat) => Lib.run_convert_bytes_const (P := Try.prog) w 22 5 C n c Try.underlying22 Try.underlying5
  go_enter Try.func7, Try.ntmps7
  go_wp2_with fail
  clear kc
  have hb0 : Below w.heap.size w (w.alloc (Obj.cells (nine.map encB).toArray 5 (9, 10))) := (Below.refl _ _).alloc (Nat.le_refl _) _
  have hB := Bs.lit (n := 9) (heap_alloc_last w (Obj.cells (nine.map encB).toArray 5 (9, 10))) rfl rfl
  have HB := Lib.hid hB
  clear hB
  have H0 := Lib.hid hb0
  clear hb0
  refine (Sum16_any _ _ _ _ nine HB.out (by decide)).mono ?_
  rintro e w1 ⟨rfl, hb1⟩
  rw [nine16]
  go_wp2_with fail
  refine (Sum32_any _ _ _ _ nine (HB.out.below hb1) (by decide)).mono ?_
  rintro e w2 ⟨rfl, hb2⟩
  rw [nine32]
  go_wp2_with fail
  go_ret
  exact ⟨rfl, H0.out.trans ((hb1.mono H0.out.size).trans (hb2.mono (Nat.le_trans H0.out.size hb1.size)))⟩

set_option maxHeartbeats 1000000 in
theorem walk_CrcSums (a : Option Addr) (n cap : Nat) (z : List Int) (w : World) (h0 : IsRow .u8 w a n cap z) :
    Calls Try.prog 3 #[.slice a n cap] w fun e w' => e = .returned (.bool true) ∧ Below w.heap.size w w' := by
  obtain ⟨bs, hB, hm⟩ := Bs.ofRow h0
  unfold maxLen at hm
  clear h0
  have HB := Lib.hid hB
  clear hB
  go_enter Try.func3, Try.ntmps3
  go_wp2_with fail
  refine (fixed03_any _).mono ?_
  rintro e w1 ⟨rfl, hb1⟩
  by_cases hn : 3000 < n
  · go_wp2_with fail
    go_ret
    exact ⟨rfl, hb1⟩
  · go_wp2_with fail
    have e16 := same16 bs 65535 (by decide) (by decide)
    have e32 := same32 bs 4294967295 (by decide) (by decide)
    refine (Sum16_any _ _ _ _ bs (HB.out.below hb1) (by omega)).mono ?_
    rintro e w2 ⟨rfl, hb2⟩
    have hb3 := hb1.trans (hb2.mono hb1.size)
    go_wp2_with fail
    refine (refSum16_any _ _ _ _ bs (HB.out.below hb3) (by omega)).mono ?_
    rintro e w3 ⟨rfl, rfl⟩
    go_wp2_with fail
    refine (Sum32_any _ _ _ _ bs (HB.out.below hb3) (by omega)).mono ?_
    rintro e w4 ⟨rfl, hb4⟩
    have hb5 := hb3.trans (hb4.mono hb3.size)
    have e33 : not32 (bs.foldl downByte 4294967295) = bits .xor .u32 (bs.foldl refByte32 4294967295) 4294967295 := by rw [e32, not32, max_u32, bits32_xor, bits32_xor, BitVec.xor_comm]
    clear e32
    rw [e33]
    clear e33
    go_wp2_with fail
    refine (refSum32_any _ _ _ _ bs (HB.out.below hb5) (by omega)).mono ?_
    rintro e w6 ⟨rfl, rfl⟩
    go_wp2_with fail
    go_ret
    exact ⟨rfl, hb5⟩

set_option maxHeartbeats 1000000 in
theorem walk_CrcMore (s : Int) (a : Option Addr) (n cap : Nat) (z : List Int) (b : Option Addr) (m capb : Nat) (y : List Int) (w : World) (hs : (Lit.int .u16 s).wf = true) (h0 : IsRow .u8 w a n cap z) (h1 : IsRow .u8 w b m capb y) :
    Calls Try.prog 4 #[.int .u16 s, .slice a n cap, .slice b m capb] w fun e w' => e = .returned (.bool true) ∧ Below w.heap.size w w' := by
  obtain ⟨s0, s1⟩ := bounds_u16 hs
  clear hs
  obtain ⟨xs, hA, hn⟩ := Bs.ofRow h0
  obtain ⟨bs, hB, hm⟩ := Bs.ofRow h1
  unfold maxLen at hn hm
  clear h0 h1
  have HA := Lib.hid hA
  have HB := Lib.hid hB
  clear hA hB
  go_enter Try.func4, Try.ntmps4
  go_wp2_with fail
  refine (fixed03_any _).mono ?_
  rintro e w1 ⟨rfl, hb1⟩
  by_cases hn1 : 1500 < n
  · go_wp2_with fail
    go_ret
    exact ⟨rfl, hb1⟩
  by_cases hm1 : 1500 < m
  · go_wp2_with fail
    go_ret
    exact ⟨rfl, hb1⟩
  go_wp2_with fail
  have e16 := same16 xs s (by omega) (by omega)
  have HE := Lib.hid e16
  clear e16
  refine (More16_any _ _ _ _ _ xs s0 (by omega) (HA.out.below hb1) (by omega)).mono ?_
  rintro e w2 ⟨rfl, hb2⟩
  have hb3 := hb1.trans (hb2.mono hb1.size)
  rw [HE.out]
  go_wp2_with fail
  refine (refMore16_any _ _ _ _ _ xs s0 (by omega) (HA.out.below hb3) (by omega)).mono ?_
  rintro e w3 ⟨rfl, rfl⟩
  go_wp2_with fail
  refine (Sum16_any _ _ _ _ xs (HA.out.below hb3) (by omega)).mono ?_
  rintro e w3 ⟨rfl, hb4⟩
  have hb5 := hb3.trans (hb4.mono hb3.size)
  have hup := E_of (n := 16) (x := 65535) (by decide) (by decide)
  have hr : 0 ≤ xs.foldl upByte 65535 ∧ xs.foldl upByte 65535 < 65536 := by
    rw [hup, up_crc]; exact ⟨E_nonneg _, E_lt _⟩
  have hr0 := hr.1
  have hr1 := hr.2
  have hcat : (xs ++ bs).foldl upByte 65535 = bs.foldl upByte (xs.foldl upByte 65535) := by rw [List.foldl_append]
  have HCAT := Lib.hid hcat
  clear hcat hr hup
  generalize hq : xs.foldl upByte 65535 = q at *
  clear hq
  go_wp2_with fail
  refine (More16_any _ _ _ _ _ bs hr0 hr1 (HB.out.below hb5) (by omega)).mono ?_
  rintro e w4 ⟨rfl, hb6⟩
  have hb7 := hb5.trans (hb6.mono hb5.size)
  have ho0 := own_empty w4 w.heap.size 5 hb7.size
  have HO0 := Lib.hid ho0
  have hb8 := hb7.alloc hb7.size (Obj.cells #[] 5)
  have HB8 := Lib.hid hb8
  clear ho0 hb8
  go_wp2_with (first
    | (at_builtin; refine wpList_app rfl _ _ _ rfl w.heap.size _ _ xs rfl hown1 _ m bs rfl ((HB.out.below HB9.out).src Try.underlying22 _) (by omega) HB9.out.size ?_; intro v2 w6 hown2 hg2)
    | (at_builtin; refine wpList_app rfl _ _ _ rfl w.heap.size _ 0 [] rfl HO0.out _ n xs rfl ((HA.out.below HB8.out).src Try.underlying22 _) (by omega) HB8.out.size ?_; intro v1 w5 hown1 hg1; have HB9 := Lib.hid (below_app HB8.out HB8.out.size HO0.out hg1)))
  obtain ⟨a2, cap2, rfl, hB2, _⟩ := Bs.ofOwn hown2
  have hb10 := below_app HB9.out HB9.out.size hown1 hg2
  refine (Sum16_any _ _ _ _ _ hB2 (by omega)).mono ?_
  rintro e w7 ⟨rfl, hb11⟩
  rw [HCAT.out]
  clear hown1 hown2 hg1 hg2 hB2
  go_wp2_with fail
  go_ret
  exact ⟨rfl, hb10.trans (hb11.mono hb10.size)⟩
end Go.Proofs.Ytoobdlldjocahaa
