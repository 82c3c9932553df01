/- Bytes' bits, in the walk's spelling. No condition. -/
import Derived.Test.YtdnnodpchjnleaaBits
import Derived.Test.YtdnnodpchjnleaaLib
namespace Go.Proofs.Ytdnnodpchjnleaa
open Go.ChangeShapes Go.WideShapes Go.ChangeAt Go.RowKit
theorem u8_bv (x : UInt8) : BitVec.ofInt 8 (x.toNat : Int) = x.toBitVec := by
  apply BitVec.eq_of_toNat_eq
  simp [BitVec.toNat_ofInt]
theorem E_u8 (v : BitVec 8) : E v = ((UInt8.ofBitVec v).toNat : Int) := rfl
theorem u8_and (x y : UInt8) : bits .and .u8 (x.toNat : Int) (y.toNat : Int) = ((x &&& y).toNat : Int) := by
  rw [bits8_and, u8_bv, u8_bv, E_u8]; rfl
theorem u8_or (x y : UInt8) : bits .or .u8 (x.toNat : Int) (y.toNat : Int) = ((x ||| y).toNat : Int) := by
  rw [bits8_or, u8_bv, u8_bv, E_u8]; rfl
theorem u8_andNot (x y : UInt8) : bits .andNot .u8 (x.toNat : Int) (y.toNat : Int) = ((x &&& ~~~y).toNat : Int) := by
  rw [bits8_andNot, u8_bv, u8_bv, E_u8]; rfl
theorem bv_clear (c o : BitVec 8) : c &&& ~~~o = 0#8 ↔ c &&& o = c := by
  constructor
  · intro h
    apply BitVec.eq_of_getLsbD_eq
    intro i hi
    have := congrArg (fun v => v.getLsbD i) h
    simp [hi] at this ⊢
    intro hc
    cases ho : o.getLsbD i <;> simp_all
  · intro h
    apply BitVec.eq_of_getLsbD_eq
    intro i hi
    have := congrArg (fun v => v.getLsbD i) h
    simp [hi] at this ⊢
    intro hc
    exact this hc
theorem u8_clear (c o : UInt8) : (c &&& ~~~o) = 0 ↔ (c &&& o) = c := by
  rw [← UInt8.toBitVec_inj, ← UInt8.toBitVec_inj]
  exact bv_clear c.toBitVec o.toBitVec
/-- What a program that is torn leaves of a byte. -/
theorem u8_torn (o b m : UInt8) : (o &&& ~~~(~~~b &&& m)) = (o &&& (b ||| ~~~m)) := by
  rw [← UInt8.toBitVec_inj]
  show o.toBitVec &&& ~~~(~~~b.toBitVec &&& m.toBitVec) = o.toBitVec &&& (b.toBitVec ||| ~~~m.toBitVec)
  apply BitVec.eq_of_getLsbD_eq
  intro i hi
  simp [hi]
theorem u8_not (m : UInt8) : 255 - m = ~~~m := by
  apply UInt8.toNat_inj.1
  have h := m.toNat_lt
  rw [UInt8.toNat_sub_of_le _ _ (by rw [UInt8.le_iff_toNat_le]; show m.toNat ≤ 255; omega)]
  show 255 - m.toNat = (~~~m.toBitVec).toNat
  rw [BitVec.toNat_not]
  show 255 - m.toNat = 2 ^ 8 - 1 - m.toNat
  omega
end Go.Proofs.Ytdnnodpchjnleaa
