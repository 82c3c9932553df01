/- The tables of package crc: crc.up and crc.down give the arrays 'tab .u16 upAt', 'tab .u32 downAt'. No condition. -/
import Derived.Test.YtdnnodpchjnleaaLib
namespace Go.Proofs.Ytdnnodpchjnleaa
open Go.ChangeShapes Go.WideShapes Go.ChangeAt Go.RowKit

def upBit (x : Int) : Int := bits .xor .u16 (IntKind.u16.wrap (x * 2)) (bits .and .u16 4129 (IntKind.u16.wrap (-(x / 32768))))
def upAt (i : Nat) : Int := iter upBit 8 (i * 256)
def downBit (x : Int) : Int := bits .xor .u32 (x / 2) (bits .and .u32 2197175160 (IntKind.u32.wrap (-(bits .and .u32 x 1))))
def downAt (i : Nat) : Int := iter downBit 8 i

theorem upBit_lt (x : Int) : 0 ≤ upBit x ∧ upBit x < 65536 := by
  unfold upBit bits; simp only [IntKind.wrap_u16]; omega
theorem downBit_lt (x : Int) : 0 ≤ downBit x ∧ downBit x < 4294967296 := by
  unfold downBit bits; simp only [IntKind.wrap_u32']; omega

/-- The first k places of a table are filled. -/
def tab (kind : IntKind) (f : Nat → Int) (k : Nat) : Array Value := ((List.range 256).map fun i => Value.int kind (if i < k then f i else 0)).toArray
theorem tab_size (kind : IntKind) (f : Nat → Int) (k : Nat) : (tab kind f k).size = 256 := by simp [tab]
theorem tab_at (kind : IntKind) (f : Nat → Int) (k j : Nat) (h : j < 256) : (tab kind f k)[j]? = some (.int kind (if j < k then f j else 0)) := by
  simp [tab, h]
theorem tab_set (kind : IntKind) (f : Nat → Int) (k : Nat) (x : Int) (hx : x = f k) : (tab kind f k).setIfInBounds k (.int kind x) = tab kind f (k + 1) := by
  subst hx
  apply Array.ext_getElem?
  intro i
  rw [Array.getElem?_setIfInBounds]
  by_cases hi : i < 256
  · rw [tab_at _ _ _ _ hi, tab_at _ _ _ _ hi]
    by_cases hk : k = i
    · subst hk; simp [tab_size, hi]
    · simp only [hk, if_false]
      by_cases h2 : i < k
      · rw [if_pos h2, if_pos (by omega)]
      · rw [if_neg h2, if_neg (by omega)]
  · have h1 : (tab kind f k)[i]? = none := by simp [tab_size]; omega
    have h2 : (tab kind f (k + 1))[i]? = none := by simp [tab_size]; omega
    rw [h1, h2]
    split
    · simp [tab_size]; omega
    · rfl
theorem tab_one (kind : IntKind) (f : Nat → Int) (k : Nat) : (tab kind f k).all (·.oneCell') = true := by
  simp [tab, Array.all_eq_true]; intro i hi; rfl

theorem info16 : (Try.prog.info? 79).map (·.size) = some 256 := by kernel_rfl
def zs16 : Array Value := Array.replicate 256 (.int .u16 0)
def zs32 : Array Value := Array.replicate 256 (.int .u32 0)
theorem zero16 (w : World) : (zeroValue 79).run Try.prog w = .ok (.agg zs16) w := by kernel_rfl
theorem tab_zero16 (f : Nat → Int) : tab .u16 f 0 = zs16 := by
  unfold tab zs16
  apply Array.ext'; simp [List.map_const']
theorem tab_zero32 (f : Nat → Int) : tab .u32 f 0 = zs32 := by
  unfold tab zs32
  apply Array.ext'; simp [List.map_const']

set_option maxHeartbeats 1000000 in
set_option maxRecDepth 100000 in
theorem up_any (w : World) : Calls Try.prog 43 #[] w fun e w' => e = .returned (.agg (tab .u16 upAt 256)) ∧ Below w.heap.size w w' := by
  have hz := zero16
  go_enter Try.func43, Try.ntmps43
  go_wp2
  clear hz
  go_loopw [2, 3, 4, 10] (fun _ _ i _ wr => ∃ k : Nat, k ≤ 256 ∧ i = .int .i64 k ∧ wr = ((w.alloc (Obj.cells zs16 79)).alloc (Obj.cells (tab .u16 upAt k) 79))) (fun _ _ i _ _ => 256 - (intOf i).toNat)
  case atStart => exact ⟨0, by omega, rfl, by rw [tab_zero16]⟩
  case round =>
    obtain ⟨k, hk, rfl, rfl⟩ := hrel
    by_cases hlt : k < 256
    · go_wp2
      go_loop [3, 10] (fun s i => ∃ j : Nat, j ≤ 8 ∧ i = .int .i64 j ∧ ∃ x : Int, 0 ≤ x ∧ x < 65536 ∧ s = .int .u16 x ∧ Hid (x = iter upBit j (k * 256))) (fun _ i => 8 - (intOf i).toNat)
      case atStart => exact ⟨0, by omega, rfl, _, by omega, by omega, rfl, rfl⟩
      case round =>
        obtain ⟨j, hj, rfl, x, hx, hx2, rfl, HX⟩ := hrel
        by_cases hjt : j < 8
        · go_wp2
          go_round
          case rel => exact ⟨j + 1, by omega, by go_num, upBit x, (upBit_lt x).1, (upBit_lt x).2, rfl, iter_hid HX⟩
          case measure => simp [intOf]; omega
        · obtain rfl : j = 8 := by omega
          have htab := tab_at .u16 upAt k k hlt
          go_wp2
          go_roundw
          case rel => exact ⟨k + 1, by omega, by go_num, by rw [tab_set .u16 upAt k x HX.out]⟩
          case measure => simp [intOf]; omega
    · have hh := heap_alloc2_new w (Obj.cells zs16 79) (Obj.cells (tab .u16 upAt k) 79)
      have hh0 := heap_alloc2_old w (Obj.cells zs16 79) (Obj.cells (tab .u16 upAt k) 79)
      have H := Lib.hid hh
      have H0 := Lib.hid hh0
      clear hh hh0
      go_wp2_with (first
        | (refine wpList_load_row rfl _ _ rfl _ rfl _ _ _ _ H.out Try.underlying79 rfl (by rw [tab_size]; exact info16) ?_)
        | (refine wpList_store_row rfl _ _ _ rfl _ _ rfl rfl _ _ H0.out (by rw [tab_size]; exact info16) (by simp [tab_size, zs16]) (tab_one _ _ _) ?_))
      refine bodyPost_ret (v := .agg (tab .u16 upAt k)) (results_cell_row rfl _ _ w.heap.size _ _ _ _ rfl (setRow_heap _ _ _ _ _ _ H0.out) Try.underlying79 rfl (by rw [tab_size]; exact info16)) rfl ⟨by rw [show k = 256 from by omega], ?_⟩
      exact below_setRow (((Below.refl _ _).alloc (Nat.le_refl _) _).alloc (by simp) _) (Nat.le_refl _) _
end Go.Proofs.Ytdnnodpchjnleaa
