/- The sums of package crc and of its reference, as the walk spells them, over Int. No condition. -/
import Derived.Test.YtechkdnoekffmaaQ00ScanTorn
namespace Go.Proofs.Ytechkdnoekffmaa
open Go.ChangeShapes Go.WideShapes Go.ChangeAt Go.RowKit

def refBit16 (x : Int) : Int := if 65536 ≤ x * 2 then bits .xor .u32 (x * 2 % 65536) 4129 else x * 2
def refByte16 (x : Int) (c : UInt8) : Int := iter refBit16 8 (bits .xor .u32 x (c.toNat * 256))
theorem bits_small {x y : Int} {n : Nat} (hn : n ≤ 32) (hx0 : 0 ≤ x) (hx : x < 2 ^ n) (hy0 : 0 ≤ y) (hy : y < 2 ^ n) : 0 ≤ bits .xor .u32 x y ∧ bits .xor .u32 x y < 2 ^ n := by
  obtain ⟨a, rfl⟩ := Int.eq_ofNat_of_zero_le hx0
  obtain ⟨b, rfl⟩ := Int.eq_ofNat_of_zero_le hy0
  have ha : a < 2 ^ n := by exact_mod_cast hx
  have hb : b < 2 ^ n := by exact_mod_cast hy
  have hp : 2 ^ n ≤ 2 ^ 32 := Nat.pow_le_pow_right (by decide) hn
  have e : bits .xor .u32 (a : Int) (b : Int) = ((a ^^^ b : Nat) : Int) := by
    rw [bits32_xor]
    unfold E
    simp only [BitVec.ofInt_natCast, BitVec.toNat_xor, BitVec.toNat_ofNat]
    rw [Nat.mod_eq_of_lt (by omega : a < 2 ^ 32), Nat.mod_eq_of_lt (by omega : b < 2 ^ 32)]
  rw [e]
  have := Nat.xor_lt_two_pow ha hb
  exact ⟨by omega, by exact_mod_cast this⟩
theorem refBit16_lt (x : Int) (h0 : 0 ≤ x) (h : x < 65536) : 0 ≤ refBit16 x ∧ refBit16 x < 65536 := by
  unfold refBit16
  split
  · exact bits_small (n := 16) (by decide) (by omega) (by omega) (by decide) (by decide)
  · omega
theorem refXor16_lt (x : Int) (c : UInt8) (h0 : 0 ≤ x) (h : x < 65536) : 0 ≤ bits .xor .u32 x (c.toNat * 256) ∧ bits .xor .u32 x (c.toNat * 256) < 65536 := by
  have := u8_lt c
  exact bits_small (n := 16) (by decide) h0 (by omega) (by omega) (by omega)

set_option maxHeartbeats 1000000 in
theorem refMore16_any (w : World) (s : Int) (a : Option Addr) (n cap : Nat) (bs : List UInt8) (h0 : 0 ≤ s) (h1 : s < 65536) (hb : Bs w a n bs) (hn : n ≤ 65536) :
    Calls Try.prog 22 #[.int .u16 s, .slice a n cap] w fun e w' => e = .returned (.int .u16 (bs.foldl refByte16 s)) ∧ w = w' := by
  obtain ⟨hbl, hbc⟩ := hb
  have HL := Lib.hid hbl
  clear hbl
  go_enter Try.func22, Try.ntmps22
  go_wp2
  go_loop [5, 13] (fun t i => ∃ k : Nat, k ≤ n ∧ i = .int .i64 k ∧ ∃ m : Int, 0 ≤ m ∧ m < 65536 ∧ t = .int .u32 m ∧ Hid (m = (bs.take k).foldl refByte16 s)) (fun _ i => n - (intOf i).toNat)
  case atStart => exact ⟨0, Nat.zero_le _, rfl, s, h0, h1, rfl, by simp [Hid]⟩
  case round =>
    obtain ⟨k, hk, rfl, m, hm, hm2, rfl, HM⟩ := hrel
    by_cases hlt : k < n
    · obtain ⟨b, off, rfl, _, hc⟩ := hbc (by omega)
      have hkl : k < bs.length := by rw [HL.out]; exact hlt
      have hck := hc k hkl
      have hu := u8_lt bs[k]
      clear hc hbc
      have hx := refXor16_lt m bs[k] hm hm2
      go_wp2
      clear hck hu
      go_loop [5, 8] (fun t i => ∃ j : Nat, j ≤ 8 ∧ i = .int .i64 j ∧ ∃ x : Int, 0 ≤ x ∧ x < 65536 ∧ t = .int .u32 x ∧ Hid (x = iter refBit16 j (bits .xor .u32 m (bs[k].toNat * 256)))) (fun _ i => 8 - (intOf i).toNat)
      case atStart => exact ⟨0, Nat.zero_le _, rfl, _, hx.1, hx.2, rfl, by simp [Hid, iter]⟩
      case round =>
        obtain ⟨j, hj, rfl, x, hx0, hx1, rfl, HX⟩ := hrel
        by_cases hjt : j < 8
        · have hb2 := refBit16_lt x hx0 hx1
          by_cases hbig : 65536 ≤ x * 2
          all_goals
            go_wp2
            go_round
            case rel => exact ⟨j + 1, by omega, by go_num, refBit16 x, hb2.1, hb2.2, slot_int (by simp [refBit16, hbig]), iter_hid HX⟩
            case measure => simp [intOf]; omega
        · obtain rfl : j = 8 := by omega
          go_wp2
          go_round
          case rel => exact ⟨k + 1, by omega, by go_num, x, hx0, hx1, rfl, fold_hid HM hkl HX.out⟩
          case measure => simp [intOf]; omega
    · go_wp2
      go_ret
      exact ⟨ret_int (fold_end HM (by have := HL.out; omega)), rfl⟩


/-- The place in crc.up's table. -/
def upIx (m : Int) (c : UInt8) : Nat := (bits .xor .u8 (m / 256) c.toNat).toNat
def upByte (m : Int) (c : UInt8) : Int := bits .xor .u16 (IntKind.u16.wrap (m * 256)) (upAt (upIx m c))

set_option maxHeartbeats 1000000 in
set_option maxRecDepth 100000 in
theorem More16_any (w : World) (s : Int) (a : Option Addr) (n cap : Nat) (bs : List UInt8) (h0 : 0 ≤ s) (h1 : s < 65536) (hb : Bs w a n bs) (hn : n ≤ 65536) :
    Calls Try.prog 32 #[.int .u16 s, .slice a n cap] w fun e w' => e = .returned (.int .u16 (bs.foldl upByte s)) ∧ Below w.heap.size w w' := by
  have HB := Lib.hid hb
  clear hb
  have hz := zero16
  go_enter Try.func32, Try.ntmps32
  go_wp2_with fail
  refine (up_any _).mono ?_
  rintro e w1 ⟨rfl, hb1⟩
  go_wp2_with (first
    | (refine wpList_store_new rfl _ _ _ rfl _ rfl rfl _ _ (by rw [tab_size]; exact info16) (by simp [tab_size, zs16]) (tab_one _ _ _) ?_))
  have hb2 : Below w.heap.size w (w1.alloc (Obj.cells (tab .u16 upAt 256) 74)) := hb1.alloc hb1.size _
  have htc : ∀ j, j < 256 → (w1.alloc (Obj.cells (tab .u16 upAt 256) 74)).cell? ⟨w1.heap.size, j, none⟩ = some (.int .u16 (upAt j)) := fun j hj => by
    rw [World.cell?_alloc_new, tab_at _ _ _ _ hj, if_pos hj]
  clear hz
  have hbs := HB.out.below hb2
  generalize w1.alloc (Obj.cells (tab .u16 upAt 256) 74) = w2 at *
  have HT := Lib.hid htc
  obtain ⟨hbl, hbc⟩ := hbs
  have HL := Lib.hid hbl
  clear hbl htc hb1
  have HC := Lib.hid hbc
  clear hbc
  go_loop [0, 11] (fun t i => ∃ k : Nat, k ≤ n ∧ i = .int .i64 k ∧ ∃ m : Int, 0 ≤ m ∧ m < 65536 ∧ t = .int .u16 m ∧ Hid (m = (bs.take k).foldl upByte s)) (fun _ i => n - (intOf i).toNat)
  case atStart => exact ⟨0, Nat.zero_le _, rfl, s, h0, h1, rfl, by simp [Hid]⟩
  case round =>
    obtain ⟨k, hk, rfl, m, hm, hm2, rfl, HM⟩ := hrel
    by_cases hlt : k < n
    · obtain ⟨b, off, rfl, _, hc⟩ := HC.out (by omega)
      have hkl : k < bs.length := by rw [HL.out]; exact hlt
      have hck := hc k hkl
      have hu := u8_lt bs[k]
      have hix := bits_u8 .xor (m / 256) bs[k].toNat
      have hix0 := hix.1
      have hix1 := hix.2
      clear hc hix
      have htk := HT.out (upIx m bs[k]) (by unfold upIx; omega)
      unfold upIx at htk
      go_wp2
      go_round
      case rel => exact ⟨k + 1, by omega, by go_num, upByte m bs[k], (bits_u16 _ _ _).1, (bits_u16 _ _ _).2, rfl, fold_hid HM hkl rfl⟩
      case measure => simp [intOf]; omega
    · go_wp2
      go_ret
      exact ⟨ret_int (fold_end HM (by have := HL.out; omega)), hb2⟩

theorem Sum16_any (w : World) (a : Option Addr) (n cap : Nat) (bs : List UInt8) (hb : Bs w a n bs) (hn : n ≤ 65536) :
    Calls Try.prog 24 #[.slice a n cap] w fun e w' => e = .returned (.int .u16 (bs.foldl upByte 65535)) ∧ Below w.heap.size w w' := by
  have HB := Lib.hid hb
  clear hb
  go_enter Try.func24, Try.ntmps24
  go_wp2_with (go_at_call 32; refine (More16_any _ _ _ _ _ bs (by decide) (by decide) HB.out hn).mono ?_; rintro e w1 ⟨rfl, hb1⟩)
  go_ret
  exact ⟨rfl, hb1⟩

theorem refSum16_any (w : World) (a : Option Addr) (n cap : Nat) (bs : List UInt8) (hb : Bs w a n bs) (hn : n ≤ 65536) :
    Calls Try.prog 13 #[.slice a n cap] w fun e w' => e = .returned (.int .u16 (bs.foldl refByte16 65535)) ∧ w = w' := by
  have HB := Lib.hid hb
  clear hb
  go_enter Try.func13, Try.ntmps13
  go_wp2_with (go_at_call 22; refine (refMore16_any _ _ _ _ _ bs (by decide) (by decide) HB.out hn).mono ?_; rintro e w1 ⟨rfl, rfl⟩)
  go_ret
  exact ⟨rfl, rfl⟩

def refBit32 (x : Int) : Int := if x % 2 = 1 then bits .xor .u32 (x / 2) 2197175160 else x / 2
def refByte32 (x : Int) (c : UInt8) : Int := iter refBit32 8 (bits .xor .u32 x c.toNat)
theorem refBit32_lt (x : Int) (h0 : 0 ≤ x) (h : x < 4294967296) : 0 ≤ refBit32 x ∧ refBit32 x < 4294967296 := by
  unfold refBit32
  split
  · exact bits_u32 _ _ _
  · omega

set_option maxHeartbeats 1000000 in
theorem refSum32_any (w : World) (a : Option Addr) (n cap : Nat) (bs : List UInt8) (hb : Bs w a n bs) (hn : n ≤ 65536) :
    Calls Try.prog 14 #[.slice a n cap] w fun e w' => e = .returned (.int .u32 (bits .xor .u32 (bs.foldl refByte32 4294967295) 4294967295)) ∧ w = w' := by
  obtain ⟨hbl, hbc⟩ := hb
  have HL := Lib.hid hbl
  clear hbl
  go_enter Try.func14, Try.ntmps14
  go_wp2
  go_loop [3, 10] (fun t i => ∃ k : Nat, k ≤ n ∧ i = .int .i64 k ∧ ∃ m : Int, 0 ≤ m ∧ m < 4294967296 ∧ t = .int .u32 m ∧ Hid (m = (bs.take k).foldl refByte32 4294967295)) (fun _ i => n - (intOf i).toNat)
  case atStart => exact ⟨0, Nat.zero_le _, rfl, 4294967295, by decide, by decide, rfl, by simp [Hid]⟩
  case round =>
    obtain ⟨k, hk, rfl, m, hm, hm2, rfl, HM⟩ := hrel
    by_cases hlt : k < n
    · obtain ⟨b, off, rfl, _, hc⟩ := hbc (by omega)
      have hkl : k < bs.length := by rw [HL.out]; exact hlt
      have hck := hc k hkl
      have hu := u8_lt bs[k]
      clear hc hbc
      have hx := bits_u32 .xor m bs[k].toNat
      go_wp2
      clear hck hu
      go_loop [3, 6] (fun t i => ∃ j : Nat, j ≤ 8 ∧ i = .int .i64 j ∧ ∃ x : Int, 0 ≤ x ∧ x < 4294967296 ∧ t = .int .u32 x ∧ Hid (x = iter refBit32 j (bits .xor .u32 m bs[k].toNat))) (fun _ i => 8 - (intOf i).toNat)
      case atStart => exact ⟨0, Nat.zero_le _, rfl, _, hx.1, hx.2, rfl, by simp [Hid, iter]⟩
      case round =>
        obtain ⟨j, hj, rfl, x, hx0, hx1, rfl, HX⟩ := hrel
        by_cases hjt : j < 8
        · have hb2 := refBit32_lt x hx0 hx1
          by_cases hodd : x % 2 = 1
          · have HO := Lib.hid hodd
            have ho : (x % 2 == 1) = true := by simp [hodd]
            clear hodd
            go_wp2
            go_round
            case rel => exact ⟨j + 1, by omega, by go_num, refBit32 x, hb2.1, hb2.2, slot_int (by simp [refBit32, HO.out]), iter_hid HX⟩
            case measure => simp [intOf]; omega
          · have HO := Lib.hid hodd
            have ho : (x % 2 == 1) = false := by simp [hodd]
            clear hodd
            go_wp2
            go_round
            case rel => exact ⟨j + 1, by omega, by go_num, refBit32 x, hb2.1, hb2.2, slot_int (by simp [refBit32, HO.out]), iter_hid HX⟩
            case measure => simp [intOf]; omega
        · obtain rfl : j = 8 := by omega
          go_wp2
          go_round
          case rel => exact ⟨k + 1, by omega, by go_num, x, hx0, hx1, rfl, fold_hid HM hkl HX.out⟩
          case measure => simp [intOf]; omega
    · go_wp2
      go_ret
      exact ⟨ret_int (by rw [fold_end HM (by have := HL.out; omega)]), rfl⟩

def downIx (m : Int) (c : UInt8) : Nat := (bits .xor .u8 (m % 256) c.toNat).toNat
def downByte (m : Int) (c : UInt8) : Int := bits .xor .u32 (m / 256) (downAt (downIx m c))
def not32 (m : Int) : Int := bits .xor .u32 IntKind.u32.max m

set_option maxHeartbeats 1000000 in
set_option maxRecDepth 100000 in
theorem Sum32_any (w : World) (a : Option Addr) (n cap : Nat) (bs : List UInt8) (hb : Bs w a n bs) (hn : n ≤ 65536) :
    Calls Try.prog 29 #[.slice a n cap] w fun e w' => e = .returned (.int .u32 (not32 (bs.foldl downByte 4294967295))) ∧ Below w.heap.size w w' := by
  have HB := Lib.hid hb
  clear hb
  have hz := zero32
  go_enter Try.func29, Try.ntmps29
  go_wp2_with fail
  refine (down_any _).mono ?_
  rintro e w1 ⟨rfl, hb1⟩
  go_wp2_with (first
    | (refine wpList_store_new rfl _ _ _ rfl _ rfl rfl _ _ (by rw [tab_size]; exact info32) (by simp [tab_size, zs32]) (tab_one _ _ _) ?_))
  have hb2 : Below w.heap.size w (w1.alloc (Obj.cells (tab .u32 downAt 256) 72)) := hb1.alloc hb1.size _
  have htc : ∀ j, j < 256 → (w1.alloc (Obj.cells (tab .u32 downAt 256) 72)).cell? ⟨w1.heap.size, j, none⟩ = some (.int .u32 (downAt j)) := fun j hj => by
    rw [World.cell?_alloc_new, tab_at _ _ _ _ hj, if_pos hj]
  clear hz
  have hbs := HB.out.below hb2
  generalize w1.alloc (Obj.cells (tab .u32 downAt 256) 72) = w2 at *
  have HT := Lib.hid htc
  obtain ⟨hbl, hbc⟩ := hbs
  have HL := Lib.hid hbl
  clear hbl htc hb1
  have HC := Lib.hid hbc
  clear hbc
  go_loop [4, 10] (fun t i => ∃ k : Nat, k ≤ n ∧ i = .int .i64 k ∧ ∃ m : Int, 0 ≤ m ∧ m < 4294967296 ∧ t = .int .u32 m ∧ Hid (m = (bs.take k).foldl downByte 4294967295)) (fun _ i => n - (intOf i).toNat)
  case atStart => exact ⟨0, Nat.zero_le _, rfl, 4294967295, by decide, by decide, rfl, by simp [Hid]⟩
  case round =>
    obtain ⟨k, hk, rfl, m, hm, hm2, rfl, HM⟩ := hrel
    by_cases hlt : k < n
    · obtain ⟨b, off, rfl, _, hc⟩ := HC.out (by omega)
      have hkl : k < bs.length := by rw [HL.out]; exact hlt
      have hck := hc k hkl
      have hu := u8_lt bs[k]
      have hix := bits_u8 .xor (m % 256) bs[k].toNat
      have hix0 := hix.1
      have hix1 := hix.2
      clear hc hix
      have htk := HT.out (downIx m bs[k]) (by unfold downIx; omega)
      unfold downIx at htk
      go_wp2
      go_round
      case rel => exact ⟨k + 1, by omega, by go_num, downByte m bs[k], (bits_u32 _ _ _).1, (bits_u32 _ _ _).2, rfl, fold_hid HM hkl rfl⟩
      case measure => simp [intOf]; omega
    · go_wp2
      go_ret
      exact ⟨ret_int (by rw [fold_end HM (by have := HL.out; omega)]; rfl), hb2⟩
end Go.Proofs.Ytechkdnoekffmaa
/- The plain law of the two sums: table and bit by bit are one; a flipped bit. No program in sight. -/
namespace Go.Proofs.Ytechkdnoekffmaa
open Go.RowKit

/-- One bit of the sum of 16 bits; of 32 bits. -/
def T16 (v : BitVec 16) : BitVec 16 := (v <<< 1) ^^^ (if v.msb then 0x1021#16 else 0#16)
def D32 (v : BitVec 32) : BitVec 32 := (v >>> 1) ^^^ (if v.getLsbD 0 then 0x82F63B78#32 else 0#32)
/-! Linear. -/
theorem lin_aux {n : Nat} (a b p : BitVec n) (s t : Bool) : a ^^^ b ^^^ (if xor s t then p else 0#n) = (a ^^^ if s then p else 0#n) ^^^ (b ^^^ if t then p else 0#n) := by
  cases s <;> cases t
  · simp
  · simp [BitVec.xor_assoc]
  · simp only [Bool.xor_false, if_true, Bool.false_eq_true, if_false, BitVec.xor_zero]
    rw [BitVec.xor_assoc, BitVec.xor_assoc, BitVec.xor_comm b p]
  · simp only [Bool.xor_self, if_true, Bool.false_eq_true, if_false, BitVec.xor_zero]
    rw [BitVec.xor_comm b p, BitVec.xor_assoc, xor_xor]
theorem T16_xor (a b : BitVec 16) : T16 (a ^^^ b) = T16 a ^^^ T16 b := by
  unfold T16
  rw [BitVec.msb_xor, BitVec.shiftLeft_xor_distrib]
  exact lin_aux _ _ _ _ _
theorem D32_xor (a b : BitVec 32) : D32 (a ^^^ b) = D32 a ^^^ D32 b := by
  unfold D32
  rw [BitVec.getLsbD_xor, BitVec.ushiftRight_xor_distrib]
  exact lin_aux _ _ _ _ _
theorem iter_xor {n : Nat} {f : BitVec n → BitVec n} (hf : ∀ a b, f (a ^^^ b) = f a ^^^ f b) (k : Nat) (a b : BitVec n) : iter f k (a ^^^ b) = iter f k a ^^^ iter f k b := by
  induction k with
  | zero => rfl
  | succ k ih => simp only [iter, ih, hf]
theorem iter_add {α : Type} (f : α → α) (a b : Nat) (x : α) : iter f (a + b) x = iter f a (iter f b x) := by
  induction a with
  | zero => simp [iter]
  | succ a ih => rw [Nat.succ_add]; simp only [iter, ih]
theorem iter_in {α : Type} (f : α → α) (a : Nat) (x : α) : iter f (a + 1) x = iter f a (f x) := by
  rw [iter_add]; rfl

/-! One bit of each is T16, D32. -/
theorem msb16 (v : BitVec 16) : v.msb = decide (32768 ≤ v.toNat) := by
  rw [BitVec.msb_eq_decide]
theorem shl16 (v : BitVec 16) : BitVec.ofInt 16 (E v * 2) = v <<< 1 := by
  apply BitVec.eq_of_toNat_eq
  simp only [E, BitVec.toNat_ofInt, BitVec.toNat_shiftLeft, Nat.shiftLeft_eq]
  have := v.isLt
  omega
theorem upBit_E (v : BitVec 16) : upBit (E v) = E (T16 v) := by
  have hv := v.isLt
  unfold upBit T16
  rw [bits16_xor, bits16_and, E_inj]
  have e1 : BitVec.ofInt 16 (IntKind.u16.wrap (E v * 2)) = v <<< 1 := by
    rw [IntKind.wrap_u16, ← shl16]
    apply BitVec.eq_of_toNat_eq
    simp only [BitVec.toNat_ofInt]; omega
  rw [e1, of_E]
  congr 1
  rw [msb16]
  by_cases h : 32768 ≤ v.toNat
  · have e2 : E v / 32768 = 1 := by unfold E; omega
    rw [e2]; simp only [h, decide_true, if_true]; rfl
  · have e2 : E v / 32768 = 0 := by unfold E; omega
    rw [e2]; simp only [h, decide_false, Bool.false_eq_true, if_false]; rfl
theorem refBit16_E (v : BitVec 16) : refBit16 (E v) = E (T16 v) := by
  have hv := v.isLt
  unfold refBit16 T16
  rw [msb16]
  by_cases h : 32768 ≤ v.toNat
  · have h' : 65536 ≤ E v * 2 := by unfold E; omega
    rw [if_pos h']
    simp only [h, decide_true, if_true]
    rw [bits32_xor]
    unfold E
    simp only [BitVec.toNat_xor, BitVec.toNat_ofInt, BitVec.toNat_shiftLeft, Nat.shiftLeft_eq]
    congr 1
    congr 1
    · omega
  · have h' : ¬ 65536 ≤ E v * 2 := by unfold E; omega
    rw [if_neg h']
    simp only [h, decide_false, Bool.false_eq_true, if_false, BitVec.xor_zero]
    unfold E
    simp only [BitVec.toNat_shiftLeft, Nat.shiftLeft_eq]
    omega
theorem lsb32 (v : BitVec 32) : v.getLsbD 0 = decide (v.toNat % 2 = 1) := by
  simp [BitVec.getLsbD, Nat.testBit_zero]
theorem shr32 (v : BitVec 32) : BitVec.ofInt 32 (E v / 2) = v >>> 1 := by
  apply BitVec.eq_of_toNat_eq
  simp only [E, BitVec.toNat_ofInt, BitVec.toNat_ushiftRight, Nat.shiftRight_eq_div_pow]
  have := v.isLt
  omega
theorem refBit32_E (v : BitVec 32) : refBit32 (E v) = E (D32 v) := by
  have hv := v.isLt
  unfold refBit32 D32
  rw [lsb32]
  by_cases h : v.toNat % 2 = 1
  · have h' : E v % 2 = 1 := by unfold E; omega
    rw [if_pos h', bits32_xor, shr32]
    simp only [h, decide_true, if_true]
    rfl
  · have h' : ¬ E v % 2 = 1 := by unfold E; omega
    rw [if_neg h']
    simp only [h, decide_false, Bool.false_eq_true, if_false, BitVec.xor_zero]
    unfold E
    simp only [BitVec.toNat_ushiftRight, Nat.shiftRight_eq_div_pow]
    omega
theorem downBit_E (v : BitVec 32) : downBit (E v) = E (D32 v) := by
  have hv := v.isLt
  unfold downBit D32
  rw [bits32_xor, bits32_and, shr32, E_inj, lsb32]
  congr 1
  have e1 : bits .and .u32 (E v) 1 = ((v.toNat % 2 : Nat) : Int) := by
    rw [bits32_and, of_E]
    unfold E
    have : BitVec.ofInt 32 1 = 1#32 := rfl
    rw [this, BitVec.toNat_and]
    have : (1#32).toNat = 1 := rfl
    rw [this, Nat.and_one_is_mod]
  rw [e1]
  by_cases h : v.toNat % 2 = 1
  · rw [h]; simp only [decide_true, if_true]; rfl
  · have h0 : v.toNat % 2 = 0 := by omega
    rw [h0]; simp only [Nat.zero_ne_one, decide_false, Bool.false_eq_true, if_false]; rfl
theorem iter_E {n : Nat} {f : Int → Int} {g : BitVec n → BitVec n} (h : ∀ v, f (E v) = E (g v)) (k : Nat) (v : BitVec n) : iter f k (E v) = E (iter g k v) := by
  induction k with
  | zero => rfl
  | succ k ih => simp only [iter, ih, h]

/-! A byte. -/
def byte16 (s : BitVec 16) (c : UInt8) : BitVec 16 := iter T16 8 (s ^^^ BitVec.ofNat 16 (c.toNat * 256))
def byte32 (s : BitVec 32) (c : UInt8) : BitVec 32 := iter D32 8 (s ^^^ BitVec.ofNat 32 c.toNat)
theorem refByte16_E (s : BitVec 16) (c : UInt8) : refByte16 (E s) c = E (byte16 s c) := by
  unfold refByte16 byte16
  have hs := s.isLt
  have hc := c.toNat_lt
  have e : bits .xor .u32 (E s) (c.toNat * 256) = E (s ^^^ BitVec.ofNat 16 (c.toNat * 256)) := by
    rw [bits32_xor]
    unfold E
    have e1 : (BitVec.ofInt 32 (s.toNat : Int)).toNat = s.toNat := by simp only [BitVec.toNat_ofInt]; omega
    have e2 : (BitVec.ofInt 32 ((c.toNat : Int) * 256)).toNat = c.toNat * 256 := by simp only [BitVec.toNat_ofInt]; omega
    have e3 : (BitVec.ofNat 16 (c.toNat * 256)).toNat = c.toNat * 256 := by simp only [BitVec.toNat_ofNat]; omega
    rw [BitVec.toNat_xor, BitVec.toNat_xor, e1, e2, e3]
  rw [e, iter_E refBit16_E]
theorem refByte32_E (s : BitVec 32) (c : UInt8) : refByte32 (E s) c = E (byte32 s c) := by
  unfold refByte32 byte32
  have e : bits .xor .u32 (E s) c.toNat = E (s ^^^ BitVec.ofNat 32 c.toNat) := by
    rw [bits32_xor, of_E, BitVec.ofInt_natCast]
  rw [e, iter_E refBit32_E]

/-! The tables. -/
theorem xor_256 (a c : Nat) (hc : c < 256) : a ^^^ (c * 256) = (a % 256) ^^^ ((a / 256 ^^^ c) * 256) := by
  apply Nat.eq_of_testBit_eq
  intro i
  have e : (256 : Nat) = 2 ^ 8 := rfl
  rw [e, Nat.testBit_xor, Nat.testBit_xor, Nat.testBit_mul_two_pow, Nat.testBit_mul_two_pow, Nat.testBit_mod_two_pow, Nat.testBit_xor, Nat.testBit_div_two_pow]
  by_cases h : 8 ≤ i
  · simp [h, Nat.not_lt.2 h]
  · simp [h, Nat.lt_of_not_le h]
theorem shl8_16 : ∀ i : Fin 256, iter T16 8 (BitVec.ofNat 16 i.1) = BitVec.ofNat 16 (i.1 * 256) := by decide +kernel
theorem upByte_E (s : BitVec 16) (c : UInt8) : upByte (E s) c = E (byte16 s c) := by
  have hs := s.isLt
  have hc := c.toNat_lt
  have hi : upIx (E s) c = s.toNat / 256 ^^^ c.toNat := by
    unfold upIx
    rw [bits8_xor]
    unfold E
    rw [Int.toNat_natCast, BitVec.toNat_xor]
    congr 1
    · simp only [BitVec.toNat_ofInt]; omega
    · simp only [BitVec.toNat_ofInt]; omega
  have hi2 : s.toNat / 256 ^^^ c.toNat < 256 := Nat.xor_lt_two_pow (n := 8) (by omega) (by omega)
  unfold upByte byte16 upAt
  rw [hi]
  have e1 : ((s.toNat / 256 ^^^ c.toNat : Nat) : Int) * 256 = E (BitVec.ofNat 16 ((s.toNat / 256 ^^^ c.toNat) * 256)) := by
    unfold E; rw [BitVec.toNat_ofNat]; omega
  rw [e1, iter_E upBit_E, bits16_xor, E_inj, of_E]
  have e2 : s ^^^ BitVec.ofNat 16 (c.toNat * 256) = BitVec.ofNat 16 (s.toNat % 256) ^^^ BitVec.ofNat 16 ((s.toNat / 256 ^^^ c.toNat) * 256) := by
    apply BitVec.eq_of_toNat_eq
    rw [BitVec.toNat_xor, BitVec.toNat_xor, BitVec.toNat_ofNat, BitVec.toNat_ofNat, BitVec.toNat_ofNat, Nat.mod_eq_of_lt (by omega : c.toNat * 256 < 2 ^ 16),
      Nat.mod_eq_of_lt (by omega : s.toNat % 256 < 2 ^ 16), Nat.mod_eq_of_lt (by omega : (s.toNat / 256 ^^^ c.toNat) * 256 < 2 ^ 16)]
    exact xor_256 _ _ hc
  rw [e2, iter_xor T16_xor]
  congr 1
  have := shl8_16 ⟨s.toNat % 256, by omega⟩
  rw [this, IntKind.wrap_u16]
  apply BitVec.eq_of_toNat_eq
  simp only [BitVec.toNat_ofInt, BitVec.toNat_ofNat, E]
  omega
theorem D32_small (x : BitVec 32) (h : x.toNat % 256 = 0) : iter D32 8 x = x >>> 8 := by
  have key : ∀ j, j ≤ 8 → iter D32 j x = x >>> j := by
    intro j
    induction j with
    | zero => intro _; simp [iter]
    | succ j ih =>
      intro hj
      rw [iter, ih (by omega)]
      unfold D32
      have e : (x >>> j).getLsbD 0 = false := by
        rw [lsb32, BitVec.toNat_ushiftRight, Nat.shiftRight_eq_div_pow]
        have : j = 0 ∨ j = 1 ∨ j = 2 ∨ j = 3 ∨ j = 4 ∨ j = 5 ∨ j = 6 ∨ j = 7 := by omega
        rcases this with rfl | rfl | rfl | rfl | rfl | rfl | rfl | rfl <;> simp <;> omega
      rw [e]
      simp [BitVec.shiftRight_add]
  exact key 8 (Nat.le_refl _)
theorem xor_low (a c : Nat) (hc : c < 256) : a ^^^ c = (a / 256 * 256) ^^^ (a % 256 ^^^ c) := by
  apply Nat.eq_of_testBit_eq
  intro i
  have e : (256 : Nat) = 2 ^ 8 := rfl
  rw [e, Nat.testBit_xor, Nat.testBit_xor, Nat.testBit_mul_two_pow, Nat.testBit_xor, Nat.testBit_mod_two_pow, Nat.testBit_div_two_pow]
  by_cases h : 8 ≤ i
  · simp [h, Nat.not_lt.2 h]
  · simp [h, Nat.lt_of_not_le h]
theorem downByte_E (s : BitVec 32) (c : UInt8) : downByte (E s) c = E (byte32 s c) := by
  have hs := s.isLt
  have hc := c.toNat_lt
  have hi : downIx (E s) c = s.toNat % 256 ^^^ c.toNat := by
    unfold downIx
    rw [bits8_xor]
    unfold E
    rw [Int.toNat_natCast, BitVec.toNat_xor]
    congr 1
    · simp only [BitVec.toNat_ofInt]; omega
    · simp only [BitVec.toNat_ofInt]; omega
  have hi2 : s.toNat % 256 ^^^ c.toNat < 256 := Nat.xor_lt_two_pow (n := 8) (by omega) (by omega)
  unfold downByte byte32 downAt
  rw [hi]
  have e1 : ((s.toNat % 256 ^^^ c.toNat : Nat) : Int) = E (BitVec.ofNat 32 (s.toNat % 256 ^^^ c.toNat)) := by
    unfold E; rw [BitVec.toNat_ofNat]; omega
  rw [e1, iter_E downBit_E, bits32_xor, E_inj, of_E]
  have e2 : s ^^^ BitVec.ofNat 32 c.toNat = BitVec.ofNat 32 (s.toNat / 256 * 256) ^^^ BitVec.ofNat 32 (s.toNat % 256 ^^^ c.toNat) := by
    apply BitVec.eq_of_toNat_eq
    rw [BitVec.toNat_xor, BitVec.toNat_xor, BitVec.toNat_ofNat, BitVec.toNat_ofNat, BitVec.toNat_ofNat, Nat.mod_eq_of_lt (by omega : c.toNat < 2 ^ 32),
      Nat.mod_eq_of_lt (by omega : s.toNat / 256 * 256 < 2 ^ 32), Nat.mod_eq_of_lt (by omega : (s.toNat % 256 ^^^ c.toNat) < 2 ^ 32)]
    exact xor_low _ _ hc
  rw [e2, iter_xor D32_xor]
  congr 1
  rw [D32_small _ (by rw [BitVec.toNat_ofNat]; omega)]
  apply BitVec.eq_of_toNat_eq
  simp only [BitVec.toNat_ofInt, BitVec.toNat_ofNat, E, BitVec.toNat_ushiftRight, Nat.shiftRight_eq_div_pow]
  omega

/-! Whole texts. -/
def crc16 (s : BitVec 16) (bs : List UInt8) : BitVec 16 := bs.foldl byte16 s
def crc32 (s : BitVec 32) (bs : List UInt8) : BitVec 32 := bs.foldl byte32 s
theorem fold_E {n : Nat} {f : Int → UInt8 → Int} {g : BitVec n → UInt8 → BitVec n} (h : ∀ s c, f (E s) c = E (g s c)) (bs : List UInt8) (s : BitVec n) : bs.foldl f (E s) = E (bs.foldl g s) := by
  induction bs generalizing s with
  | nil => rfl
  | cons c bs ih => simp only [List.foldl_cons, h, ih]
theorem up_crc (bs : List UInt8) (s : BitVec 16) : bs.foldl upByte (E s) = E (crc16 s bs) := fold_E upByte_E bs s
theorem ref_crc16 (bs : List UInt8) (s : BitVec 16) : bs.foldl refByte16 (E s) = E (crc16 s bs) := fold_E refByte16_E bs s
theorem down_crc (bs : List UInt8) (s : BitVec 32) : bs.foldl downByte (E s) = E (crc32 s bs) := fold_E downByte_E bs s
theorem ref_crc32 (bs : List UInt8) (s : BitVec 32) : bs.foldl refByte32 (E s) = E (crc32 s bs) := fold_E refByte32_E bs s
theorem same16 (bs : List UInt8) (x : Int) (h0 : 0 ≤ x) (h : x < 65536) : bs.foldl upByte x = bs.foldl refByte16 x := by
  rw [E_of (n := 16) h0 h, up_crc, ref_crc16]
theorem same32 (bs : List UInt8) (x : Int) (h0 : 0 ≤ x) (h : x < 4294967296) : bs.foldl downByte x = bs.foldl refByte32 x := by
  rw [E_of (n := 32) h0 h, down_crc, ref_crc32]

/-! A flipped bit. -/
theorem byte16_lin (s d : BitVec 16) (c : UInt8) : byte16 (s ^^^ d) c = byte16 s c ^^^ iter T16 8 d := by
  unfold byte16
  rw [← iter_xor T16_xor]
  congr 1
  rw [BitVec.xor_assoc, BitVec.xor_comm d, ← BitVec.xor_assoc]
theorem byte32_lin (s d : BitVec 32) (c : UInt8) : byte32 (s ^^^ d) c = byte32 s c ^^^ iter D32 8 d := by
  unfold byte32
  rw [← iter_xor D32_xor]
  congr 1
  rw [BitVec.xor_assoc, BitVec.xor_comm d, ← BitVec.xor_assoc]
theorem crc16_lin (bs : List UInt8) (s d : BitVec 16) : crc16 (s ^^^ d) bs = crc16 s bs ^^^ iter T16 (8 * bs.length) d := by
  induction bs generalizing s d with
  | nil => rfl
  | cons c bs ih =>
    show crc16 (byte16 (s ^^^ d) c) bs = crc16 (byte16 s c) bs ^^^ _
    rw [byte16_lin, ih, ← iter_add]
    rfl
theorem crc32_lin (bs : List UInt8) (s d : BitVec 32) : crc32 (s ^^^ d) bs = crc32 s bs ^^^ iter D32 (8 * bs.length) d := by
  induction bs generalizing s d with
  | nil => rfl
  | cons c bs ih =>
    show crc32 (byte32 (s ^^^ d) c) bs = crc32 (byte32 s c) bs ^^^ _
    rw [byte32_lin, ih, ← iter_add]
    rfl
theorem one16 : ∀ r : Fin 8, iter T16 8 (BitVec.ofNat 16 (128 / 2 ^ r.1 * 256)) = iter T16 (8 - r.1) 0x8000#16 := by decide +kernel
theorem one32 : ∀ r : Fin 8, iter D32 8 (BitVec.ofNat 32 (2 ^ r.1)) = iter D32 (8 - r.1) 1#32 := by decide +kernel
theorem flip16 (bs : List UInt8) (s : BitVec 16) (q r : Nat) (hq : q < bs.length) (hr : r < 8) (x : UInt8) (hx : x.toNat = bs[q].toNat ^^^ (128 / 2 ^ r)) :
    crc16 s (bs.set q x) = crc16 s bs ^^^ iter T16 (8 * bs.length - (8 * q + r)) 0x8000#16 := by
  induction bs generalizing s q with
  | nil => simp at hq
  | cons c bs ih =>
    cases q with
    | zero =>
      simp only [List.getElem_cons_zero] at hx
      show crc16 (byte16 s x) bs = crc16 (byte16 s c) bs ^^^ _
      have e : byte16 s x = byte16 s c ^^^ iter T16 (8 - r) 0x8000#16 := by
        unfold byte16
        rw [← one16 ⟨r, hr⟩, ← iter_xor T16_xor]
        congr 1
        rw [BitVec.xor_assoc]
        congr 1
        have hc := c.toNat_lt
        have hd : 128 / 2 ^ r < 256 := Nat.lt_of_le_of_lt (Nat.div_le_self _ _) (by decide)
        apply BitVec.eq_of_toNat_eq
        rw [BitVec.toNat_xor, BitVec.toNat_ofNat, BitVec.toNat_ofNat, BitVec.toNat_ofNat, Nat.mod_eq_of_lt (by have := x.toNat_lt; omega), Nat.mod_eq_of_lt (by omega), Nat.mod_eq_of_lt (by simp only; omega), hx]
        have e8 : (256 : Nat) = 2 ^ 8 := rfl
        rw [e8, ← Nat.shiftLeft_eq, ← Nat.shiftLeft_eq, ← Nat.shiftLeft_eq, Nat.shiftLeft_xor_distrib]
      rw [e, crc16_lin, ← iter_add]
      congr 2
      simp only [List.length_cons]
      omega
    | succ q =>
      simp only [List.getElem_cons_succ] at hx
      show crc16 (byte16 s c) (bs.set q x) = crc16 (byte16 s c) bs ^^^ _
      rw [ih _ q (by simpa using hq) hx]
      congr 2
      simp only [List.length_cons] at *
      omega
theorem flip32 (bs : List UInt8) (s : BitVec 32) (q r : Nat) (hq : q < bs.length) (hr : r < 8) (x : UInt8) (hx : x.toNat = bs[q].toNat ^^^ (2 ^ r)) :
    crc32 s (bs.set q x) = crc32 s bs ^^^ iter D32 (8 * bs.length - (8 * q + r)) 1#32 := by
  induction bs generalizing s q with
  | nil => simp at hq
  | cons c bs ih =>
    cases q with
    | zero =>
      simp only [List.getElem_cons_zero] at hx
      show crc32 (byte32 s x) bs = crc32 (byte32 s c) bs ^^^ _
      have e : byte32 s x = byte32 s c ^^^ iter D32 (8 - r) 1#32 := by
        unfold byte32
        rw [← one32 ⟨r, hr⟩, ← iter_xor D32_xor]
        congr 1
        rw [BitVec.xor_assoc]
        congr 1
        have hc := c.toNat_lt
        have hd : 2 ^ r < 2 ^ 8 := Nat.pow_lt_pow_right (by decide) hr
        apply BitVec.eq_of_toNat_eq
        rw [BitVec.toNat_xor, BitVec.toNat_ofNat, BitVec.toNat_ofNat, BitVec.toNat_ofNat, Nat.mod_eq_of_lt (by have := x.toNat_lt; omega), Nat.mod_eq_of_lt (by omega), Nat.mod_eq_of_lt (by simp only; omega), hx]
      rw [e, crc32_lin, ← iter_add]
      congr 2
      simp only [List.length_cons]
      omega
    | succ q =>
      simp only [List.getElem_cons_succ] at hx
      show crc32 (byte32 s c) (bs.set q x) = crc32 (byte32 s c) bs ^^^ _
      rw [ih _ q (by simpa using hq) hx]
      congr 2
      simp only [List.length_cons] at *
      omega

/-! Nothing but 0 goes to 0. -/
theorem T16_zero (x : BitVec 16) (h : T16 x = 0#16) : x = 0#16 := by
  unfold T16 at h
  have h0 : (x <<< 1 ^^^ if x.msb = true then 4129#16 else 0#16).getLsbD 0 = false := by rw [h]; rfl
  rw [BitVec.getLsbD_xor] at h0
  by_cases hm : x.msb = true
  · rw [if_pos hm] at h0
    simp at h0
  · rw [if_neg hm] at h
    simp only [BitVec.xor_zero] at h
    rw [msb16] at hm
    have h1 : (x <<< 1).toNat = 0 := by rw [h]; rfl
    rw [BitVec.toNat_shiftLeft, Nat.shiftLeft_eq] at h1
    apply BitVec.eq_of_toNat_eq
    simp only [decide_eq_true_eq] at hm
    show x.toNat = 0
    omega
theorem D32_zero (x : BitVec 32) (h : D32 x = 0#32) : x = 0#32 := by
  unfold D32 at h
  have h0 : (x >>> 1 ^^^ if x.getLsbD 0 = true then 2197175160#32 else 0#32).getLsbD 31 = false := by rw [h]; rfl
  rw [BitVec.getLsbD_xor] at h0
  by_cases hm : x.getLsbD 0 = true
  · rw [if_pos hm] at h0
    simp at h0
  · rw [if_neg hm] at h
    simp only [BitVec.xor_zero] at h
    rw [lsb32] at hm
    have h1 : (x >>> 1).toNat = 0 := by rw [h]; rfl
    rw [BitVec.toNat_ushiftRight, Nat.shiftRight_eq_div_pow] at h1
    apply BitVec.eq_of_toNat_eq
    simp only [decide_eq_true_eq] at hm
    show x.toNat = 0
    omega
theorem iter_zero {n : Nat} {f : BitVec n → BitVec n} (hf : ∀ x, f x = 0#n → x = 0#n) (k : Nat) (x : BitVec n) (h : iter f k x = 0#n) : x = 0#n := by
  induction k with
  | zero => exact h
  | succ k ih => exact ih (hf _ h)

/-! Turned bits, one behind the other. -/
/-- Is there a turned bit? -/
def nz {n : Nat} (W : BitVec n) : Bool := W != 0#n
theorem up16 : ∀ k : Fin 16, iter T16 k.1 (BitVec.twoPow 16 (15 - k.1)) = 0x8000#16 := by decide +kernel
theorem up32 : ∀ k : Fin 32, iter D32 k.1 (BitVec.twoPow 32 k.1) = 1#32 := by decide +kernel
theorem flip8 (x : UInt8) (d : Nat) (hd : d < 256) : bits .xor .u8 x.toNat d = ((UInt8.ofNat (x.toNat ^^^ d)).toNat : Int) ∧ (UInt8.ofNat (x.toNat ^^^ d)).toNat = x.toNat ^^^ d := by
  have hx := x.toNat_lt
  have h : x.toNat ^^^ d < 256 := Nat.xor_lt_two_pow (n := 8) (by omega) (by omega)
  have e : (UInt8.ofNat (x.toNat ^^^ d)).toNat = x.toNat ^^^ d := UInt8.toNat_ofNat_of_lt' h
  refine ⟨?_, e⟩
  rw [e, bits8_xor]
  unfold E
  rw [BitVec.toNat_xor]
  congr 2
  · simp only [BitVec.toNat_ofInt]; omega
  · simp only [BitVec.toNat_ofInt]; omega
theorem turn16_step (s : BitVec 16) (bs cs : List UInt8) (n p k : Nat) (W : BitVec 16) (hl : cs.length = n) (hk : k < 16) (hin : p + k < 8 * n) (hq : (p + k) / 8 < cs.length)
    (HC : crc16 s cs = crc16 s bs ^^^ iter T16 (8 * n - p) W) (HV : ∀ j, j < 16 - k → W.getLsbD j = false) :
    ∃ (y : UInt8) (V : BitVec 16), bits .xor .u8 (cs[(p + k) / 8].toNat : Int) (128 / 2 ^ ((p + k) % 8)) = (y.toNat : Int) ∧ crc16 s (cs.set ((p + k) / 8) y) = crc16 s bs ^^^ iter T16 (8 * n - p) V ∧
      (∀ j, j < 16 - (k + 1) → V.getLsbD j = false) ∧ nz V = true := by
  have hr : (p + k) % 8 < 8 := Nat.mod_lt _ (by decide)
  have hd : 128 / 2 ^ ((p + k) % 8) < 256 := Nat.lt_of_le_of_lt (Nat.div_le_self _ _) (by decide)
  obtain ⟨f1, f2⟩ := flip8 cs[(p + k) / 8] (128 / 2 ^ ((p + k) % 8)) hd
  refine ⟨UInt8.ofNat (cs[(p + k) / 8].toNat ^^^ 128 / 2 ^ ((p + k) % 8)), W ^^^ BitVec.twoPow 16 (15 - k), ?_, ?_, ?_, ?_⟩
  · rw [← f1]
    congr 1
  · rw [flip16 cs s ((p + k) / 8) ((p + k) % 8) hq hr _ f2, HC, iter_xor T16_xor, BitVec.xor_assoc]
    congr 2
    have h2 : iter T16 k (BitVec.twoPow 16 (15 - k)) = 0x8000#16 := up16 ⟨k, hk⟩
    rw [← h2, ← iter_add]
    congr 1
    omega
  · intro j hj
    rw [BitVec.getLsbD_xor, HV j (by omega), BitVec.getLsbD_twoPow]
    simp; omega
  · have : (W ^^^ BitVec.twoPow 16 (15 - k)).getLsbD (15 - k) = true := by
      rw [BitVec.getLsbD_xor, HV (15 - k) (by omega), BitVec.getLsbD_twoPow]
      simp; omega
    unfold nz
    rw [bne_iff_ne]
    intro h0
    rw [h0] at this
    simp at this
theorem turn32_step (s : BitVec 32) (bs cs : List UInt8) (n p k : Nat) (W : BitVec 32) (hl : cs.length = n) (hk : k < 32) (hin : p + k < 8 * n) (hq : (p + k) / 8 < cs.length)
    (HC : crc32 s cs = crc32 s bs ^^^ iter D32 (8 * n - p) W) (HV : ∀ j, k ≤ j → W.getLsbD j = false) :
    ∃ (y : UInt8) (V : BitVec 32), bits .xor .u8 (cs[(p + k) / 8].toNat : Int) (2 ^ ((p + k) % 8) % 256) = (y.toNat : Int) ∧ crc32 s (cs.set ((p + k) / 8) y) = crc32 s bs ^^^ iter D32 (8 * n - p) V ∧
      (∀ j, k + 1 ≤ j → V.getLsbD j = false) ∧ nz V = true := by
  have hr : (p + k) % 8 < 8 := Nat.mod_lt _ (by decide)
  have hd : 2 ^ ((p + k) % 8) < 256 := Nat.lt_of_lt_of_le (Nat.pow_lt_pow_right (by decide) hr) (by decide)
  obtain ⟨f1, f2⟩ := flip8 cs[(p + k) / 8] (2 ^ ((p + k) % 8)) hd
  refine ⟨UInt8.ofNat (cs[(p + k) / 8].toNat ^^^ 2 ^ ((p + k) % 8)), W ^^^ BitVec.twoPow 32 k, ?_, ?_, ?_, ?_⟩
  · rw [← f1]
    congr 1
    have e2 : ((2 : Int) ^ ((p + k) % 8)) = ((2 ^ ((p + k) % 8) : Nat) : Int) := by push_cast; rfl
    rw [e2]
    have h3 := congrArg Int.ofNat (Nat.mod_eq_of_lt hd)
    exact h3
  · rw [flip32 cs s ((p + k) / 8) ((p + k) % 8) hq hr _ f2, HC, iter_xor D32_xor, BitVec.xor_assoc]
    congr 2
    have h2 : iter D32 k (BitVec.twoPow 32 k) = 1#32 := up32 ⟨k, hk⟩
    rw [← h2, ← iter_add]
    congr 1
    omega
  · intro j hj
    rw [BitVec.getLsbD_xor, HV j (by omega), BitVec.getLsbD_twoPow]
    simp; omega
  · have : (W ^^^ BitVec.twoPow 32 k).getLsbD k = true := by
      rw [BitVec.getLsbD_xor, HV k (Nat.le_refl _), BitVec.getLsbD_twoPow]
      simp; omega
    unfold nz
    rw [bne_iff_ne]
    intro h0
    rw [h0] at this
    simp at this
theorem turn_end {n : Nat} {f : BitVec n → BitVec n} (hf : ∀ x, f x = 0#n → x = 0#n) (h0 : ∀ k, iter f k 0#n = 0#n) {a b W : BitVec n} {k : Nat} (h : a = b ^^^ iter f k W) : a = b ↔ nz W = false := by
  unfold nz
  rw [h]
  constructor
  · intro e
    have : iter f k W = 0#n := by
      have := congrArg (b ^^^ ·) e
      simpa [xor_xor] using this
    simp [iter_zero hf k W this]
  · intro e
    have : W = 0#n := by simpa using e
    rw [this, h0]; simp
theorem iter16_0 (k : Nat) : iter T16 k 0#16 = 0#16 := by
  induction k with
  | zero => rfl
  | succ k ih => rw [iter, ih]; decide
theorem iter32_0 (k : Nat) : iter D32 k 0#32 = 0#32 := by
  induction k with
  | zero => rfl
  | succ k ih => rw [iter, ih]; decide
theorem not32_inj (a b : BitVec 32) : not32 (E a) = not32 (E b) ↔ a = b := by
  unfold not32
  rw [bits32_xor, bits32_xor, E_inj, of_E, of_E]
  constructor
  · intro h
    have := congrArg (BitVec.ofInt 32 IntKind.u32.max ^^^ ·) h
    simpa [xor_xor] using this
  · intro h; rw [h]
end Go.Proofs.Ytechkdnoekffmaa
