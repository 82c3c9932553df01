/- rec: bytes that are a record's. Plain. No condition. -/
import Derived.Test.YtechkdnoekffmaaRecPlain
namespace Go.Proofs.Ytechkdnoekffmaa
theorem put_part (bs : List UInt8) (i k : Nat) (h : i + k ≤ bs.length) : putB (getN ((bs.drop i).take k)) k = (bs.drop i).take k := by
  have hl : ((bs.drop i).take k).length = k := by simp; omega
  have := put_get ((bs.drop i).take k)
  rwa [hl] at this
theorem take_more (bs : List UInt8) (i k : Nat) : bs.take i ++ (bs.drop i).take k = bs.take (i + k) := by
  rw [List.take_add]
theorem rec_head_is (bs : List UInt8) (u : UInt8) (h : 11 ≤ bs.length) (hu : bs.getD 0 0 = u) :
    recHd u (getN ((bs.drop 1).take 4)) (getN ((bs.drop 5).take 1)) (getN ((bs.drop 6).take 2)) (getN ((bs.drop 8).take 1)) = bs.take 9 := by
  unfold recHd
  rw [put_part _ _ _ (by omega), put_part _ _ _ (by omega), put_part _ _ _ (by omega), put_part _ _ _ (by omega)]
  have h1 : [u] = bs.take 1 := by
    rw [← hu]
    cases bs with
    | nil => simp at h
    | cons x l => simp
  rw [h1, take_more, take_more, take_more, take_more]
theorem rec_body_is (bs : List UInt8) (u : UInt8) (h : 11 ≤ bs.length) (hu : bs.getD 0 0 = u) (hc : crcN (bs.take 9) = getN ((bs.drop 9).take 2)) {ky bl : Nat} (hk : getN ((bs.drop 5).take 1) = ky) (hb : getN ((bs.drop 6).take 2) = bl) (hl : 11 + ky + bl ≤ bs.length) :
    recBody u (getN ((bs.drop 1).take 4)) ((bs.drop 11).take ky) ((bs.drop (11 + ky)).take bl) (getN ((bs.drop 8).take 1)) = bs.take (11 + ky + bl) := by
  have hkl : ((bs.drop 11).take ky).length = ky := by simp; omega
  have hbl : ((bs.drop (11 + ky)).take bl).length = bl := by simp; omega
  unfold recBody
  rw [hkl, hbl]
  have hh := rec_head_is bs u h hu
  rw [hk, hb] at hh
  rw [hh, hc, put_part _ _ _ (by omega), take_more, take_more, take_more]
theorem recB_is (bs : List UInt8) (u : UInt8) (h : 11 ≤ bs.length) (hu : bs.getD 0 0 = u) (hc : crcN (bs.take 9) = getN ((bs.drop 9).take 2)) {ky bl : Nat} (hk : getN ((bs.drop 5).take 1) = ky) (hb : getN ((bs.drop 6).take 2) = bl) (hl : 15 + ky + bl ≤ bs.length) :
    recB u (getN ((bs.drop 1).take 4)) ((bs.drop 11).take ky) ((bs.drop (11 + ky)).take bl) (getN ((bs.drop 8).take 1)) = bs.take (15 + ky + bl) ↔ sumN (bs.take (11 + ky + bl)) = getN ((bs.drop (11 + ky + bl)).take 4) := by
  unfold recB
  rw [rec_body_is bs u h hu hc hk hb (by omega), show 15 + ky + bl = 11 + ky + bl + 4 by omega, show bs.take (11 + ky + bl + 4) = bs.take (11 + ky + bl) ++ (bs.drop (11 + ky + bl)).take 4 from (take_more ..).symm]
  rw [List.append_cancel_left_eq]
  constructor
  · intro e
    have h1 := congrArg getN e
    rw [get_put, Nat.mod_eq_of_lt (by have := sumN_lt (bs.take (11 + ky + bl)); omega)] at h1
    exact h1
  · intro e
    rw [e]
    exact put_part _ _ _ (by omega)
end Go.Proofs.Ytechkdnoekffmaa
