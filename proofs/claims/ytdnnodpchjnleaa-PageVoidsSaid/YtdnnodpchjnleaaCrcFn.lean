/- The sums of package crc and of its reference, as the walk spells them, over Int. No condition. -/
import Derived.Test.YtdnnodpchjnleaaCrcTab
import Derived.Test.YtdnnodpchjnleaaBits
namespace Go.Proofs.Ytdnnodpchjnleaa
open Go.ChangeShapes Go.WideShapes Go.ChangeAt Go.RowKit

def refBit16 (x : Int) : Int := if 65536 ≤ x * 2 then bits .xor .u32 (x * 2 % 65536) 4129 else x * 2
def refByte16 (x : Int) (c : UInt8) : Int := iter refBit16 8 (bits .xor .u32 x (c.toNat * 256))
theorem bits_small {x y : Int} {n : Nat} (hn : n ≤ 32) (hx0 : 0 ≤ x) (hx : x < 2 ^ n) (hy0 : 0 ≤ y) (hy : y < 2 ^ n) : 0 ≤ bits .xor .u32 x y ∧ bits .xor .u32 x y < 2 ^ n := by
  obtain ⟨a, rfl⟩ := Int.eq_ofNat_of_zero_le hx0
  obtain ⟨b, rfl⟩ := Int.eq_ofNat_of_zero_le hy0
  have ha : a < 2 ^ n := by exact_mod_cast hx
  have hb : b < 2 ^ n := by exact_mod_cast hy
  have hp : 2 ^ n ≤ 2 ^ 32 := Nat.pow_le_pow_right (by decide) hn
  have e : bits .xor .u32 (a : Int) (b : Int) = ((a ^^^ b : Nat) : Int) := by
    rw [bits32_xor]
    unfold E
    simp only [BitVec.ofInt_natCast, BitVec.toNat_xor, BitVec.toNat_ofNat]
    rw [Nat.mod_eq_of_lt (by omega : a < 2 ^ 32), Nat.mod_eq_of_lt (by omega : b < 2 ^ 32)]
  rw [e]
  have := Nat.xor_lt_two_pow ha hb
  exact ⟨by omega, by exact_mod_cast this⟩
theorem refBit16_lt (x : Int) (h0 : 0 ≤ x) (h : x < 65536) : 0 ≤ refBit16 x ∧ refBit16 x < 65536 := by
  unfold refBit16
  split
  · exact bits_small (n := 16) (by decide) (by omega) (by omega) (by decide) (by decide)
  · omega
theorem refXor16_lt (x : Int) (c : UInt8) (h0 : 0 ≤ x) (h : x < 65536) : 0 ≤ bits .xor .u32 x (c.toNat * 256) ∧ bits .xor .u32 x (c.toNat * 256) < 65536 := by
  have := u8_lt c
  exact bits_small (n := 16) (by decide) h0 (by omega) (by omega) (by omega)

set_option maxHeartbeats 1000000 in
theorem refMore16_any (w : World) (s : Int) (a : Option Addr) (n cap : Nat) (bs : List UInt8) (h0 : 0 ≤ s) (h1 : s < 65536) (hb : Bs w a n bs) (hn : n ≤ 65536) :
    Calls Try.prog 39 #[.int .u16 s, .slice a n cap] w fun e w' => e = .returned (.int .u16 (bs.foldl refByte16 s)) ∧ w = w' := by
  obtain ⟨hbl, hbc⟩ := hb
  have HL := Lib.hid hbl
  clear hbl
  go_enter Try.func39, Try.ntmps39
  go_wp2
  go_loop [5, 13] (fun t i => ∃ k : Nat, k ≤ n ∧ i = .int .i64 k ∧ ∃ m : Int, 0 ≤ m ∧ m < 65536 ∧ t = .int .u32 m ∧ Hid (m = (bs.take k).foldl refByte16 s)) (fun _ i => n - (intOf i).toNat)
  case atStart => exact ⟨0, Nat.zero_le _, rfl, s, h0, h1, rfl, by simp [Hid]⟩
  case round =>
    obtain ⟨k, hk, rfl, m, hm, hm2, rfl, HM⟩ := hrel
    by_cases hlt : k < n
    · obtain ⟨b, off, rfl, _, hc⟩ := hbc (by omega)
      have hkl : k < bs.length := by rw [HL.out]; exact hlt
      have hck := hc k hkl
      have hu := u8_lt bs[k]
      clear hc hbc
      have hx := refXor16_lt m bs[k] hm hm2
      go_wp2
      clear hck hu
      go_loop [5, 8] (fun t i => ∃ j : Nat, j ≤ 8 ∧ i = .int .i64 j ∧ ∃ x : Int, 0 ≤ x ∧ x < 65536 ∧ t = .int .u32 x ∧ Hid (x = iter refBit16 j (bits .xor .u32 m (bs[k].toNat * 256)))) (fun _ i => 8 - (intOf i).toNat)
      case atStart => exact ⟨0, Nat.zero_le _, rfl, _, hx.1, hx.2, rfl, by simp [Hid, iter]⟩
      case round =>
        obtain ⟨j, hj, rfl, x, hx0, hx1, rfl, HX⟩ := hrel
        by_cases hjt : j < 8
        · have hb2 := refBit16_lt x hx0 hx1
          by_cases hbig : 65536 ≤ x * 2
          all_goals
            go_wp2
            go_round
            case rel => exact ⟨j + 1, by omega, by go_num, refBit16 x, hb2.1, hb2.2, slot_int (by simp [refBit16, hbig]), iter_hid HX⟩
            case measure => simp [intOf]; omega
        · obtain rfl : j = 8 := by omega
          go_wp2
          go_round
          case rel => exact ⟨k + 1, by omega, by go_num, x, hx0, hx1, rfl, fold_hid HM hkl HX.out⟩
          case measure => simp [intOf]; omega
    · go_wp2
      go_ret
      exact ⟨ret_int (fold_end HM (by have := HL.out; omega)), rfl⟩


/-- The place in crc.up's table. -/
def upIx (m : Int) (c : UInt8) : Nat := (bits .xor .u8 (m / 256) c.toNat).toNat
def upByte (m : Int) (c : UInt8) : Int := bits .xor .u16 (IntKind.u16.wrap (m * 256)) (upAt (upIx m c))

set_option maxHeartbeats 1000000 in
set_option maxRecDepth 100000 in
theorem More16_any (w : World) (s : Int) (a : Option Addr) (n cap : Nat) (bs : List UInt8) (h0 : 0 ≤ s) (h1 : s < 65536) (hb : Bs w a n bs) (hn : n ≤ 65536) :
    Calls Try.prog 38 #[.int .u16 s, .slice a n cap] w fun e w' => e = .returned (.int .u16 (bs.foldl upByte s)) ∧ Below w.heap.size w w' := by
  have HB := Lib.hid hb
  clear hb
  have hz := zero16
  go_enter Try.func38, Try.ntmps38
  go_wp2_with fail
  refine (up_any _).mono ?_
  rintro e w1 ⟨rfl, hb1⟩
  go_wp2_with (first
    | (refine wpList_store_new rfl _ _ _ rfl _ rfl rfl _ _ (by rw [tab_size]; exact info16) (by simp [tab_size, zs16]) (tab_one _ _ _) ?_))
  have hb2 : Below w.heap.size w (w1.alloc (Obj.cells (tab .u16 upAt 256) 79)) := hb1.alloc hb1.size _
  have htc : ∀ j, j < 256 → (w1.alloc (Obj.cells (tab .u16 upAt 256) 79)).cell? ⟨w1.heap.size, j, none⟩ = some (.int .u16 (upAt j)) := fun j hj => by
    rw [World.cell?_alloc_new, tab_at _ _ _ _ hj, if_pos hj]
  clear hz
  have hbs := HB.out.below hb2
  generalize w1.alloc (Obj.cells (tab .u16 upAt 256) 79) = w2 at *
  have HT := Lib.hid htc
  obtain ⟨hbl, hbc⟩ := hbs
  have HL := Lib.hid hbl
  clear hbl htc hb1
  have HC := Lib.hid hbc
  clear hbc
  go_loop [0, 11] (fun t i => ∃ k : Nat, k ≤ n ∧ i = .int .i64 k ∧ ∃ m : Int, 0 ≤ m ∧ m < 65536 ∧ t = .int .u16 m ∧ Hid (m = (bs.take k).foldl upByte s)) (fun _ i => n - (intOf i).toNat)
  case atStart => exact ⟨0, Nat.zero_le _, rfl, s, h0, h1, rfl, by simp [Hid]⟩
  case round =>
    obtain ⟨k, hk, rfl, m, hm, hm2, rfl, HM⟩ := hrel
    by_cases hlt : k < n
    · obtain ⟨b, off, rfl, _, hc⟩ := HC.out (by omega)
      have hkl : k < bs.length := by rw [HL.out]; exact hlt
      have hck := hc k hkl
      have hu := u8_lt bs[k]
      have hix := bits_u8 .xor (m / 256) bs[k].toNat
      have hix0 := hix.1
      have hix1 := hix.2
      clear hc hix
      have htk := HT.out (upIx m bs[k]) (by unfold upIx; omega)
      unfold upIx at htk
      go_wp2
      go_round
      case rel => exact ⟨k + 1, by omega, by go_num, upByte m bs[k], (bits_u16 _ _ _).1, (bits_u16 _ _ _).2, rfl, fold_hid HM hkl rfl⟩
      case measure => simp [intOf]; omega
    · go_wp2
      go_ret
      exact ⟨ret_int (fold_end HM (by have := HL.out; omega)), hb2⟩

theorem Sum16_any (w : World) (a : Option Addr) (n cap : Nat) (bs : List UInt8) (hb : Bs w a n bs) (hn : n ≤ 65536) :
    Calls Try.prog 22 #[.slice a n cap] w fun e w' => e = .returned (.int .u16 (bs.foldl upByte 65535)) ∧ Below w.heap.size w w' := by
  have HB := Lib.hid hb
  clear hb
  go_enter Try.func22, Try.ntmps22
  go_wp2_with (go_at_call 38; refine (More16_any _ _ _ _ _ bs (by decide) (by decide) HB.out hn).mono ?_; rintro e w1 ⟨rfl, hb1⟩)
  go_ret
  exact ⟨rfl, hb1⟩

theorem refSum16_any (w : World) (a : Option Addr) (n cap : Nat) (bs : List UInt8) (hb : Bs w a n bs) (hn : n ≤ 65536) :
    Calls Try.prog 26 #[.slice a n cap] w fun e w' => e = .returned (.int .u16 (bs.foldl refByte16 65535)) ∧ w = w' := by
  have HB := Lib.hid hb
  clear hb
  go_enter Try.func26, Try.ntmps26
  go_wp2_with (go_at_call 39; refine (refMore16_any _ _ _ _ _ bs (by decide) (by decide) HB.out hn).mono ?_; rintro e w1 ⟨rfl, rfl⟩)
  go_ret
  exact ⟨rfl, rfl⟩

def refBit32 (x : Int) : Int := if x % 2 = 1 then bits .xor .u32 (x / 2) 2197175160 else x / 2
def refByte32 (x : Int) (c : UInt8) : Int := iter refBit32 8 (bits .xor .u32 x c.toNat)
theorem refBit32_lt (x : Int) (h0 : 0 ≤ x) (h : x < 4294967296) : 0 ≤ refBit32 x ∧ refBit32 x < 4294967296 := by
  unfold refBit32
  split
  · exact bits_u32 _ _ _
  · omega

def downIx (m : Int) (c : UInt8) : Nat := (bits .xor .u8 (m % 256) c.toNat).toNat
def downByte (m : Int) (c : UInt8) : Int := bits .xor .u32 (m / 256) (downAt (downIx m c))
def not32 (m : Int) : Int := bits .xor .u32 IntKind.u32.max m

end Go.Proofs.Ytdnnodpchjnleaa
