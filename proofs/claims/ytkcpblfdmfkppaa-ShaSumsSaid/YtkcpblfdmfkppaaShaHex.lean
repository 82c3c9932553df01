/- sha: Hex. No condition. -/
import Derived.Test.YtkcpblfdmfkppaaBuilder
import Derived.Test.YtkcpblfdmfkppaaShaSum
namespace Go.Proofs.Ytkcpblfdmfkppaa
open Go.ChangeShapes Go.WideShapes Go.ChangeAt Go.RowKit
def signsL : List UInt8 := [48, 49, 50, 51, 52, 53, 54, 55, 56, 57, 97, 98, 99, 100, 101, 102]
def signAt (n : Nat) : UInt8 := signsL.getD n 0
/-- A sum's signs. -/
def hexB (bs : List UInt8) : List UInt8 := bs.flatMap fun c => [signAt (c.toNat / 16), signAt (c.toNat % 16)]
theorem hexB_length (bs : List UInt8) : (hexB bs).length = 2 * bs.length := by
  induction bs with
  | nil => rfl
  | cons c bs ih => rw [hexB, List.flatMap_cons, List.length_append]; unfold hexB at ih; rw [ih, List.length_cons]; simp; omega
theorem hexB_take (bs : List UInt8) (k : Nat) (h : k < bs.length) : hexB (bs.take (k + 1)) = hexB (bs.take k) ++ [signAt (bs[k].toNat / 16)] ++ [signAt (bs[k].toNat % 16)] := by
  rw [List.take_succ_eq_append_getElem h]
  unfold hexB
  rw [List.flatMap_append]
  simp
theorem lt16 {n : Nat} (h : n < 16) : n = 0 ∨ n = 1 ∨ n = 2 ∨ n = 3 ∨ n = 4 ∨ n = 5 ∨ n = 6 ∨ n = 7 ∨ n = 8 ∨ n = 9 ∨ n = 10 ∨ n = 11 ∨ n = 12 ∨ n = 13 ∨ n = 14 ∨ n = 15 := by omega
theorem idx_sign (w : World) (n : Nat) (h : n < 16) :
    (Instr.index 9 (.string ⟨#[48, 49, 50, 51, 52, 53, 54, 55, 56, 57, 97, 98, 99, 100, 101, 102]⟩) (.int .u8 (n : Nat))).run Try.prog w = .ok (.int .u8 ((signAt n).toNat : Nat)) w := by
  have hu := Try.underlying9
  have hg : (⟨#[48, 49, 50, 51, 52, 53, 54, 55, 56, 57, 97, 98, 99, 100, 101, 102]⟩ : ByteArray)[n]? = some (signAt n) := by
    rcases lt16 h with rfl | rfl | rfl | rfl | rfl | rfl | rfl | rfl | rfl | rfl | rfl | rfl | rfl | rfl | rfl | rfl <;> rfl
  simp [go_sem, Instr.index, hu, hg]
theorem and15F : ∀ c : Fin 256, bits .and .u8 (c.1 : Int) 15 = ((c.1 % 16 : Nat) : Int) := by decide +kernel
theorem and15 (c : Nat) (h : c < 256) : bits .and .u8 (c : Int) 15 = ((c % 16 : Nat) : Int) := and15F ⟨c, h⟩
set_option maxHeartbeats 4000000 in
set_option maxRecDepth 100000 in
theorem Hex_any (w : World) (bs : List UInt8) (hl : bs.length = 32) :
    Calls Try.prog 12 #[.agg (bs.map encB).toArray] w fun e w' => e = .returned (.string ⟨(hexB bs).toArray⟩) ∧ Below w.heap.size w w' := by
  obtain ⟨A, hA⟩ : ∃ A, A = (bs.map encB).toArray := ⟨_, rfl⟩
  have hix : ∀ w' : World, ∀ k (h : k < bs.length), (Instr.index 24 (.agg A) (.int .i64 k)).run Try.prog w' = .ok (.int .u8 (bs[k].toNat : Nat)) w' := by
    intro w' k h
    have hu := Try.underlying24
    have hk2 : ((k : Nat) : Int) < 32 := by omega
    rw [hA]
    have hk3 : k < 32 := by omega
    simp [go_sem, Instr.index, hu, hl, h, hk2, hk3, encB]
  have hasz : A.size = 32 := by rw [hA]; simpa using hl
  rw [← hA]
  have HIX := Lib.hid hix
  have HSZ := Lib.hid hasz
  have HL := Lib.hid hl
  clear hA hix hasz hl
  have hbox : Below w.heap.size w (w.alloc (.cells A 24)) := (Below.refl _ _).alloc (Nat.le_refl _) _
  have hrow : (w.alloc (.cells A 24)).heap[w.heap.size]? = some (.cells A 24 (0, 0)) := heap_alloc_last w _
  have HBX := Lib.hid hbox
  have HBXS := Lib.hid hbox.size
  have HROW := Lib.hid hrow
  clear hbox hrow
  go_enter Try.func12, Try.ntmps12
  go_upto_region 1 with fail
  generalize w.alloc (.cells A 24) = w1 at *
  have hbld : Lib.IsBuilderF 51 5 w1.heap.size w1.heap.size (([] : List UInt8).map encB) (w1.alloc (.cells #[.pointer none, .slice none 0 0] 51)) :=
    .inl ⟨Nat.le_refl _, .slice none 0 0, heap_alloc_last w1 _, World.ownsRowF_of (World.ownsRow_nil _ _ _ _), by simp [Value.ownBlock]⟩
  have hal : Below w1.heap.size w1 (w1.alloc (.cells #[.pointer none, .slice none 0 0] 51)) := (Below.refl _ _).alloc (Nat.le_refl _) _
  have hrow2 : (w1.alloc (.cells #[.pointer none, .slice none 0 0] 51)).heap[w.heap.size]? = some (.cells A 24 (0, 0)) := by
    rw [hal.block _ (Array.getElem?_eq_some_iff.1 HROW.out).1]
    exact HROW.out
  have HBD := Lib.hid hbld
  have HAL := Lib.hid hal
  have HROW2 := Lib.hid hrow2
  clear hbld hal hrow2 HROW
  go_upto_region 2 with fail
  generalize w1.alloc (.cells #[.pointer none, .slice none 0 0] 51) = w2 at *
  have HBS := Lib.hid HAL.out.size
  generalize hbb : w1.heap.size = b at *
  clear hbb
  go_wp2_with (refine wpList_load_row rfl _ _ rfl _ rfl _ _ _ _ HROW2.out Try.underlying24 rfl (by rw [HSZ.out]; exact info_out) ?_)
  go_loopg [7] 32 (fun gn i wr => ∃ k : Nat, k ≤ 32 ∧ gn = 32 - k ∧ i = .int .i64 k ∧ Hid (Lib.IsBuilderF 51 5 b b ((hexB (bs.take k)).map encB) wr) ∧ Hid (Below b w1 wr) ∧ Hid (b ≤ wr.heap.size))
  case atStart => exact ⟨0, by omega, by omega, by go_num, HBD, HAL, Lib.hid HBS.out⟩
  case round =>
    clear HBD HAL
    obtain ⟨k, hk, rfl, rfl, HBD, HB, HSZB⟩ := hrel
    by_cases hlt : k < 32
    · have k1 : (k : Int) < 32 := by omega
      have hkl : k < bs.length := by rw [HL.out]; exact hlt
      have hx := HIX.out wr k hkl
      obtain ⟨c, hc⟩ : ∃ c, c = bs[k].toNat := ⟨_, rfl⟩
      rw [← hc] at hx
      have hc256 : c < 256 := by rw [hc]; exact bs[k].toNat_lt
      obtain ⟨q, hq⟩ : ∃ q, q = c / 16 := ⟨_, rfl⟩
      obtain ⟨r, hr⟩ : ∃ r, r = c % 16 := ⟨_, rfl⟩
      have hqE : (c : Int) / 16 = (q : Int) := by omega
      have hrE : bits .and .u8 (c : Int) 15 = (r : Int) := by rw [and15 c hc256, hr]
      have hs1 := fun w' => idx_sign w' q (by omega)
      have hs2 := fun w' => idx_sign w' r (by omega)
      have HC := Lib.hid hc
      have HQ := Lib.hid hq
      have HR := Lib.hid hr
      have hlen : (hexB (bs.take k)).length ≤ 64 := by rw [hexB_length, List.length_take]; omega
      have HLEN := Lib.hid hlen
      clear hc hq hr hlen
      have HW1 := Lib.hid (WriteByte_k b b (hexB (bs.take k)) (signAt q) wr HBD.out (by have := HLEN.out; omega) HSZB.out)
      go_wp2_with fail
      refine HW1.out.mono ?_
      rintro e w3 ⟨rfl, hb3, hw3⟩
      have hsz3 : b ≤ w3.heap.size := Nat.le_trans HSZB.out hw3.size
      have HW2 := Lib.hid (WriteByte_k b b (hexB (bs.take k) ++ [signAt q]) (signAt r) w3 hb3 (by have := HLEN.out; rw [List.length_append, List.length_singleton]; omega) hsz3)
      have HB3 := Lib.hid (HB.out.trans hw3)
      clear hb3 hw3 HW1 HBD HB HSZB
      go_wp2_with fail
      refine HW2.out.mono ?_
      rintro e w4 ⟨rfl, hb4, hw4⟩
      have hsz4 : b ≤ w4.heap.size := Nat.le_trans hsz3 hw4.size
      have HBD4 := Lib.hid hb4
      have HB4 := Lib.hid (HB3.out.trans hw4)
      have HSZ4 := Lib.hid hsz4
      clear hb4 hw4 hsz4 HW2 HB3 hsz3
      go_wp2_with fail
      go_roundg (32 - (k + 1))
      case measure => omega
      case rel =>
        refine ⟨k + 1, by omega, rfl, by go_num, ?_, HB4, HSZ4⟩
        rw [hexB_take bs k hkl, ← HC.out, ← HQ.out, ← HR.out]
        exact HBD4
    · obtain rfl : k = 32 := by omega
      have htk : bs.take 32 = bs := List.take_of_length_le (by rw [HL.out]; exact Nat.le_refl _)
      rw [htk] at HBD
      have HST := Lib.hid (StringB_k b b (hexB bs) wr HBD.out HSZB.out)
      clear htk HBD
      go_wp2_with fail
      refine HST.out.mono ?_
      rintro e w5 ⟨rfl, hb5⟩
      go_wp2_with fail
      go_ret
      exact ⟨rfl, HBX.out.trans ((HB.out.trans hb5).mono HBXS.out)⟩
end Go.Proofs.Ytkcpblfdmfkppaa
