/- sha: the rounds' numbers. No condition. -/
import Derived.Test.YtkcpblfdmfkppaaShaSpread
namespace Go.Proofs.Ytkcpblfdmfkppaa
open Go.ChangeShapes Go.WideShapes Go.ChangeAt Go.RowKit
def keysL : List (BitVec 32) := [
  0x428a2f98, 0x71374491, 0xb5c0fbcf, 0xe9b5dba5, 0x3956c25b, 0x59f111f1, 0x923f82a4, 0xab1c5ed5,
  0xd807aa98, 0x12835b01, 0x243185be, 0x550c7dc3, 0x72be5d74, 0x80deb1fe, 0x9bdc06a7, 0xc19bf174,
  0xe49b69c1, 0xefbe4786, 0x0fc19dc6, 0x240ca1cc, 0x2de92c6f, 0x4a7484aa, 0x5cb0a9dc, 0x76f988da,
  0x983e5152, 0xa831c66d, 0xb00327c8, 0xbf597fc7, 0xc6e00bf3, 0xd5a79147, 0x06ca6351, 0x14292967,
  0x27b70a85, 0x2e1b2138, 0x4d2c6dfc, 0x53380d13, 0x650a7354, 0x766a0abb, 0x81c2c92e, 0x92722c85,
  0xa2bfe8a1, 0xa81a664b, 0xc24b8b70, 0xc76c51a3, 0xd192e819, 0xd6990624, 0xf40e3585, 0x106aa070,
  0x19a4c116, 0x1e376c08, 0x2748774c, 0x34b0bcb5, 0x391c0cb3, 0x4ed8aa4a, 0x5b9cca4f, 0x682e6ff3,
  0x748f82ee, 0x78a5636f, 0x84c87814, 0x8cc70208, 0x90befffa, 0xa4506ceb, 0xbef9a3f7, 0xc67178f2]
set_option maxHeartbeats 4000000 in
set_option maxRecDepth 100000 in
theorem keys_any (w : World) : Calls Try.prog 26 #[] w fun e w' => e = .returned (.agg (keysL.map encW).toArray) ∧ Below w.heap.size w w' := by
  have H0 := Lib.hid (heap_alloc_last w (.cells (List.replicate 64 (Value.int .u32 0)).toArray 62))
  have HB := Lib.hid (show Below w.heap.size w (w.alloc (.cells (List.replicate 64 (Value.int .u32 0)).toArray 62)) from (Below.refl _ _).alloc (Nat.le_refl _) _)
  obtain ⟨A, hA⟩ : ∃ A, A = (keysL.map encW).toArray := ⟨_, rfl⟩
  have HA := Lib.hid hA
  have HSZ := Lib.hid (show A.size = 64 by rw [hA]; rfl)
  have HON := Lib.hid (show A.all (·.oneCell') = true by rw [hA]; simp [encW, Value.oneCell'])
  clear hA
  go_enter Try.func26, Try.ntmps26
  go_upto_region 1 with fail
  have hw : w.alloc (.cells (List.replicate 64 (Value.int .u32 0)).toArray 62) = w.alloc (.cells (List.replicate 64 (Value.int .u32 0)).toArray 62) := rfl
  clear hw
  go_wp2_with (first
    | (refine wpList_build rfl _ _ rfl (by kernel_rfl) ?_)
    | (refine wpList_store_row rfl _ _ _ rfl _ A rfl (by rw [HA.out]; kernel_rfl) _ _ H0.out (by rw [HSZ.out]; exact info64) (by rw [HSZ.out]; rfl) HON.out ?_))
  refine bodyPost_ret (v := .agg A) (results_cell_row rfl _ _ w.heap.size _ _ _ _ rfl (setRow_heap _ _ _ _ _ _ H0.out) Try.underlying62 rfl (by rw [HSZ.out]; exact info64)) rfl ⟨by rw [HA.out], ?_⟩
  exact below_setRow HB.out (Nat.le_refl _) _
end Go.Proofs.Ytkcpblfdmfkppaa
