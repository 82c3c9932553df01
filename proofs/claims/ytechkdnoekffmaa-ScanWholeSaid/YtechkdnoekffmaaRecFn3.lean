/- rec: a record's bytes. No condition. -/
import Derived.Test.YtechkdnoekffmaaRecFn2
import Derived.Test.YtechkdnoekffmaaNumPlain2
import Derived.Deep.AppendSrc
namespace Go.Proofs.Ytechkdnoekffmaa
open Go.ChangeShapes Go.WideShapes Go.ChangeAt Go.RowKit
def crcN (bs : List UInt8) : Nat := (crc16 65535#16 bs).toNat
theorem crcN_lt (bs : List UInt8) : crcN bs < 65536 := (crc16 65535#16 bs).isLt
theorem up_crcN (bs : List UInt8) : bs.foldl upByte 65535 = (crcN bs : Int) := up_crc bs 65535#16
theorem ref_crcN (bs : List UInt8) : bs.foldl refByte16 65535 = (crcN bs : Int) := ref_crc16 bs 65535#16
def sumN (bs : List UInt8) : Nat := (bits .xor .u32 (bs.foldl refByte32 4294967295) 4294967295).toNat
theorem sumN_int (bs : List UInt8) : bits .xor .u32 (bs.foldl refByte32 4294967295) 4294967295 = (sumN bs : Int) := by
  have := bits_u32 .xor (bs.foldl refByte32 4294967295) 4294967295
  unfold sumN; omega
theorem sumN_lt (bs : List UInt8) : sumN bs < 4294967296 := by
  have := bits_u32 .xor (bs.foldl refByte32 4294967295) 4294967295
  unfold sumN; omega
theorem up_sumN (bs : List UInt8) : not32 (bs.foldl downByte 4294967295) = (sumN bs : Int) := by
  rw [← sumN_int, same32 bs _ (by omega) (by omega), not32, show IntKind.u32.max = 4294967295 by decide, bits32_xor, bits32_xor, BitVec.xor_comm]
theorem Sum16_n (w : World) (a : Option Addr) (n cap : Nat) (bs : List UInt8) (hb : Bs w a n bs) (hn : n ≤ 65536) :
    Calls Try.prog 24 #[.slice a n cap] w fun e w' => e = .returned (.int .u16 (crcN bs : Int)) ∧ Below w.heap.size w w' := by
  have h := Sum16_any w a n cap bs hb hn
  rwa [up_crcN] at h
theorem refSum16_n (w : World) (a : Option Addr) (n cap : Nat) (bs : List UInt8) (hb : Bs w a n bs) (hn : n ≤ 65536) :
    Calls Try.prog 13 #[.slice a n cap] w fun e w' => e = .returned (.int .u16 (crcN bs : Int)) ∧ w = w' := by
  have h := refSum16_any w a n cap bs hb hn
  rwa [ref_crcN] at h
theorem Sum32_n (w : World) (a : Option Addr) (n cap : Nat) (bs : List UInt8) (hb : Bs w a n bs) (hn : n ≤ 65536) :
    Calls Try.prog 29 #[.slice a n cap] w fun e w' => e = .returned (.int .u32 (sumN bs : Int)) ∧ Below w.heap.size w w' := by
  have h := Sum32_any w a n cap bs hb hn
  rwa [up_sumN] at h
theorem refSum32_n (w : World) (a : Option Addr) (n cap : Nat) (bs : List UInt8) (hb : Bs w a n bs) (hn : n ≤ 65536) :
    Calls Try.prog 14 #[.slice a n cap] w fun e w' => e = .returned (.int .u32 (sumN bs : Int)) ∧ w = w' := by
  have h := refSum32_any w a n cap bs hb hn
  rwa [sumN_int] at h
theorem strSrc (w : World) (kb : List UInt8) : Src Try.prog 1 9 (.string ⟨kb.toArray⟩) kb.length (kb.map encB) w := by
  have h := Src.ofString (P := Try.prog) (w := w) (tx := 9) Try.underlying9 ⟨kb.toArray⟩
  have h1 : (⟨kb.toArray⟩ : ByteArray).size = kb.length := by simp [ByteArray.size]
  have h2 : byteCells ⟨kb.toArray⟩ = kb.map encB := by simp [byteCells, encB]
  rwa [h1, h2] at h
theorem wp_app1 {t e : TypeId} {z : Value} {bytes : Nat} (hO : OneE t e z bytes) {w : World} {ops : Array Oper} {o : Oper} {a : Act} {K : Act → World → Prop} {Q : Exit → Act → World → Prop} (hgd : Region.wanted o (yielded ops a.tmps) = true) (s x : Operand) (tx : TypeId)
    (ho : o.op = .call { callee := .builtin .append, args := #[s, x], argTypes := #[t, tx] })
    (base : Nat) (v : Value) (n : Nat) (xs : List Value) (hv : a.eval s = v) (hown : w.ownsRow base e 1 v n xs)
    (y : Value) (m : Nat) (news : List Value) (hy : a.eval x = y) (hs : Src Try.prog 1 tx y m news w) (hlen : (n + m) * bytes ≤ 140737488355328) (hm : n + m ≤ maxLen) (hbase : base ≤ w.heap.size)
    (h : ∀ v' w', w'.ownsRow base e 1 v' (n + m) (xs ++ news) → w.grownBy w' v.ownBlock → Below base w w' → K (a.put o.dst v') w') : Oper.wp Try.prog o a w K Q := by
  have h1 := step_app1 (E := True) (ops := ops) (Q := Q) hO hgd s x tx ho base v n xs hv hown y m news hy hs hlen hm hbase h
  rwa [if_pos hgd] at h1
/-- The nine bytes that a record begins with. -/
def recHd (u : UInt8) (t key blob c : Nat) : List UInt8 := [u] ++ putB t 4 ++ putB key 1 ++ putB blob 2 ++ putB c 1
theorem recHd_length (u : UInt8) (t key blob c : Nat) : (recHd u t key blob c).length = 9 := by simp [recHd, putB_length]
/-- All but its sum of 32 bits and the last byte. -/
def recBody (u : UInt8) (t : Nat) (kb : List UInt8) (bs : List UInt8) (c : Nat) : List UInt8 :=
  recHd u t kb.length bs.length c ++ putB (crcN (recHd u t kb.length bs.length c)) 2 ++ kb ++ bs
def recB (u : UInt8) (t : Nat) (kb : List UInt8) (bs : List UInt8) (c : Nat) : List UInt8 := recBody u t kb bs c ++ putB (sumN (recBody u t kb bs c)) 4
/-- A block of five cells behind a walk. -/
def Blk5 (w : World) (g : Nat) (x y z u v : Value) (t : TypeId) : Prop := w.heap[g]? = some (.cells #[x, y, z, u, v] t)
theorem Blk5.belowB {w w1 : World} {B g : Nat} {x y z u v : Value} {t : TypeId} (h : Blk5 w g x y z u v t) (hb : Below B w w1) (hlt : g < B) : Blk5 w1 g x y z u v t := by
  unfold Blk5
  rw [hb.block _ hlt]; exact h
theorem Blk5.lt {w : World} {g : Nat} {x y z u v : Value} {t : TypeId} (h : Blk5 w g x y z u v t) : g < w.heap.size := (Array.getElem?_eq_some_iff.1 h).1
theorem Blk5.below {w w1 : World} {g : Nat} {x y z u v : Value} {t : TypeId} (h : Blk5 w g x y z u v t) (hb : Below w.heap.size w w1) : Blk5 w1 g x y z u v t := h.belowB hb h.lt
structure Box5 (w : World) (g : Nat) (x y z u v : Value) : Prop where
  c0 : w.cell? ⟨g, 0, none⟩ = some x
  c1 : w.cell? ⟨g, 1, none⟩ = some y
  c2 : w.cell? ⟨g, 2, none⟩ = some z
  c3 : w.cell? ⟨g, 3, none⟩ = some u
  c4 : w.cell? ⟨g, 4, none⟩ = some v
  f0 : w.frozen? ⟨g, 0, none⟩ = false
  f1 : w.frozen? ⟨g, 1, none⟩ = false
  f2 : w.frozen? ⟨g, 2, none⟩ = false
  f3 : w.frozen? ⟨g, 3, none⟩ = false
  f4 : w.frozen? ⟨g, 4, none⟩ = false
  lt : g < w.heap.size
theorem Blk5.box {w : World} {g : Nat} {x y z u v : Value} {t : TypeId} (hg : Blk5 w g x y z u v t) : Box5 w g x y z u v := by
  refine ⟨?_, ?_, ?_, ?_, ?_, ?_, ?_, ?_, ?_, ?_, hg.lt⟩
  · rw [cell_of_row w _ 0 _ _ _ hg]; rfl
  · rw [cell_of_row w _ 1 _ _ _ hg]; rfl
  · rw [cell_of_row w _ 2 _ _ _ hg]; rfl
  · rw [cell_of_row w _ 3 _ _ _ hg]; rfl
  · rw [cell_of_row w _ 4 _ _ _ hg]; rfl
  all_goals (unfold World.frozen?; rw [show w.heap[g]? = _ from hg]; rfl)
end Go.Proofs.Ytechkdnoekffmaa
