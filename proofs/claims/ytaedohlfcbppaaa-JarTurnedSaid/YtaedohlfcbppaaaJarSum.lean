/- jar: sums of 32 bits as numbers, the program's and the reference's. No condition. -/
import Derived.Test.YtaedohlfcbppaaaCrcPlain
import Derived.Test.YtaedohlfcbppaaaCrcFn
namespace Go.Proofs.Ytaedohlfcbppaaa
open Go.ChangeShapes Go.WideShapes Go.ChangeAt Go.RowKit
def sumN (bs : List UInt8) : Nat := (bits .xor .u32 (bs.foldl refByte32 4294967295) 4294967295).toNat
theorem sumN_int (bs : List UInt8) : bits .xor .u32 (bs.foldl refByte32 4294967295) 4294967295 = (sumN bs : Int) := by
  have := bits_u32 .xor (bs.foldl refByte32 4294967295) 4294967295
  unfold sumN; omega
theorem sumN_lt (bs : List UInt8) : sumN bs < 4294967296 := by
  have := bits_u32 .xor (bs.foldl refByte32 4294967295) 4294967295
  unfold sumN; omega
theorem up_sumN (bs : List UInt8) : not32 (bs.foldl downByte 4294967295) = (sumN bs : Int) := by
  rw [← sumN_int, same32 bs _ (by omega) (by omega), not32, show IntKind.u32.max = 4294967295 by decide, bits32_xor, bits32_xor, BitVec.xor_comm]
theorem Sum32_n (w : World) (a : Option Addr) (n cap : Nat) (bs : List UInt8) (hb : Bs w a n bs) (hn : n ≤ 65536) :
    Calls Try.prog 25 #[.slice a n cap] w fun e w' => e = .returned (.int .u32 (sumN bs : Int)) ∧ Below w.heap.size w w' := by
  have h := Sum32_any w a n cap bs hb hn
  rwa [up_sumN] at h
theorem refSum32_n (w : World) (a : Option Addr) (n cap : Nat) (bs : List UInt8) (hb : Bs w a n bs) (hn : n ≤ 65536) :
    Calls Try.prog 22 #[.slice a n cap] w fun e w' => e = .returned (.int .u32 (sumN bs : Int)) ∧ w = w' := by
  have h := refSum32_any w a n cap bs hb hn
  rwa [sumN_int] at h
end Go.Proofs.Ytaedohlfcbppaaa
