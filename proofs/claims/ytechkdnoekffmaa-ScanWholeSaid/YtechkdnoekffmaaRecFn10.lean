/- rec: Parse of a record's bytes with more behind them. No condition. -/
import Derived.Test.YtechkdnoekffmaaRecFn9
import Derived.Test.YtechkdnoekffmaaRecPlain
namespace Go.Proofs.Ytechkdnoekffmaa
open Go.ChangeShapes Go.WideShapes Go.ChangeAt Go.RowKit
theorem getD_part {B Q : List UInt8} {i k j : Nat} (h : (B.drop i).take k = Q) (hj : j < k) : B.getD (i + j) 0 = Q.getD j 0 := by
  rw [← h]
  simp only [List.getD, List.getElem?_take, List.getElem?_drop, if_pos hj]
theorem Parse_rec (w : World) (a : Option Addr) (n cap : Nat) (u : UInt8) (t : Nat) (kb bs : List UInt8) (c : Nat) (last : UInt8) (more : List UInt8) (hs : Sl encB w a n (recB u t kb bs c ++ last :: more)) (hn : n ≤ 65536) (hcap : n ≤ cap)
    (hr : recOk u.toNat t kb.length bs.length c = true) (ht : t < 4294967296) :
    Calls Try.prog 15 #[.slice a n cap] w (ParseOk u.toNat t c kb bs (11 + kb.length + bs.length + 5) ((last.toNat : Int) == 0) w) := by
  have hd := of_decide_eq_true hr
  have hkl : kb.length ≤ 64 := by omega
  have hbl : bs.length ≤ 4096 := by omega
  have hcl : c ≤ 16 := by omega
  have hu : (u.toNat : Int) ≤ 3 := by omega
  have hlen := hs.1
  rw [List.length_append, recB_length, List.length_cons] at hlen
  have ek := rec_kind u t kb bs c (last :: more)
  have et := rec_txn u t kb bs c (last :: more) ht
  have ey := rec_key u t kb bs c (last :: more) (by omega)
  have eb := rec_blob u t kb bs c (last :: more) (by omega)
  have ec := rec_count u t kb bs c (last :: more) (by omega)
  have hcr := crcN_lt (recHd u t kb.length bs.length c)
  have hp := rec_crc0 u t kb bs c (last :: more)
  have e0 : (recB u t kb bs c ++ last :: more).getD 0 0 = u := by
    have := getD_part (rec_kind0 u t kb bs c (last :: more)) (j := 0) (by omega)
    simpa using this
  have e9 := getD_part hp (j := 0) (by omega)
  have e10 := getD_part hp (j := 1) (by omega)
  rw [putB_two] at e9 e10
  have h := Parse_good w a n cap _ hs hn hcap (by rw [e0]; intro h; rw [h] at hu; exact absurd hu (by decide)) (by omega)
    (by rw [rec_hd, show (9 : Nat) = 9 + 0 from rfl, e9]; show _ = (UInt8.ofNat _).toNat; rw [UInt8.toNat_ofNat_of_lt' (by show _ < 256; omega)]; omega)
    (by rw [rec_hd, show (10 : Nat) = 9 + 1 from rfl, e10]; show _ = (UInt8.ofNat _).toNat; rw [UInt8.toNat_ofNat_of_lt' (by show _ < 256; omega)])
    (by rw [ek, et, ey, eb, ec]; exact hr) (by rw [ey, eb]; omega) (by rw [ey, eb, rec_body, rec_sum])
  rw [ek, et, ey, eb, ec, rec_keyb, rec_blobb] at h
  have el : getN (((recB u t kb bs c ++ last :: more).drop (11 + kb.length + bs.length + 4)).take 1) = last.toNat := by
    have := mid (B := recB u t kb bs c ++ last :: more) (P := recB u t kb bs c) (Q := [last]) (R := more) (i := 11 + kb.length + bs.length + 4) (k := 1) (by simp) (by rw [recB_length]; omega) rfl
    rw [this]; simp [getN]
  rw [el] at h
  exact h
end Go.Proofs.Ytechkdnoekffmaa
