/- rec: what a record's bytes, with more behind them, tell. Plain. No condition. -/
import Derived.Test.YtechkdnoekffmaaRecFn3
namespace Go.Proofs.Ytechkdnoekffmaa
theorem mid {B P Q R : List UInt8} {i k : Nat} (h : B = P ++ (Q ++ R)) (hp : P.length = i) (hq : Q.length = k) : (B.drop i).take k = Q := by
  subst h
  rw [← hp, List.drop_left, ← hq, List.take_left]
section
variable (u : UInt8) (t : Nat) (kb bs : List UInt8) (c : Nat) (rest : List UInt8)
theorem rec_long : recB u t kb bs c ++ rest = [u] ++ (putB t 4 ++ (putB kb.length 1 ++ (putB bs.length 2 ++ (putB c 1 ++ (putB (crcN (recHd u t kb.length bs.length c)) 2 ++ (kb ++ (bs ++ (putB (sumN (recBody u t kb bs c)) 4 ++ (rest))))))))) := by
  unfold recB recBody recHd
  simp only [List.append_assoc]
theorem rec_hd : (recB u t kb bs c ++ rest).take 9 = recHd u t kb.length bs.length c := by
  unfold recB recBody
  simp only [List.append_assoc]
  exact List.take_left' (recHd_length ..)
theorem rec_body : (recB u t kb bs c ++ rest).take (11 + kb.length + bs.length) = recBody u t kb bs c := by
  unfold recB
  rw [List.append_assoc]
  exact List.take_left' (by unfold recBody; simp [recHd_length, putB_length]; omega)
theorem rec_kind0 : ((recB u t kb bs c ++ rest).drop 0).take 1 = [u] :=
  mid (P := []) (Q := [u]) (R := putB t 4 ++ (putB kb.length 1 ++ (putB bs.length 2 ++ (putB c 1 ++ (putB (crcN (recHd u t kb.length bs.length c)) 2 ++ (kb ++ (bs ++ (putB (sumN (recBody u t kb bs c)) 4 ++ (rest))))))))) (by rw [rec_long]; first | done | rfl) (by simp [putB_length]) (by simp [putB_length])
theorem rec_txn0 : ((recB u t kb bs c ++ rest).drop 1).take 4 = putB t 4 :=
  mid (P := [u]) (Q := putB t 4) (R := putB kb.length 1 ++ (putB bs.length 2 ++ (putB c 1 ++ (putB (crcN (recHd u t kb.length bs.length c)) 2 ++ (kb ++ (bs ++ (putB (sumN (recBody u t kb bs c)) 4 ++ (rest)))))))) (by rw [rec_long]; first | done | simp only [List.append_assoc, List.nil_append]) (by simp [putB_length]) (by simp [putB_length])
theorem rec_key0 : ((recB u t kb bs c ++ rest).drop 5).take 1 = putB kb.length 1 :=
  mid (P := [u] ++ (putB t 4)) (Q := putB kb.length 1) (R := putB bs.length 2 ++ (putB c 1 ++ (putB (crcN (recHd u t kb.length bs.length c)) 2 ++ (kb ++ (bs ++ (putB (sumN (recBody u t kb bs c)) 4 ++ (rest))))))) (by rw [rec_long]; first | done | simp only [List.append_assoc, List.nil_append]) (by simp [putB_length]) (by simp [putB_length])
theorem rec_blob0 : ((recB u t kb bs c ++ rest).drop 6).take 2 = putB bs.length 2 :=
  mid (P := [u] ++ (putB t 4 ++ (putB kb.length 1))) (Q := putB bs.length 2) (R := putB c 1 ++ (putB (crcN (recHd u t kb.length bs.length c)) 2 ++ (kb ++ (bs ++ (putB (sumN (recBody u t kb bs c)) 4 ++ (rest)))))) (by rw [rec_long]; first | done | simp only [List.append_assoc, List.nil_append]) (by simp [putB_length]) (by simp [putB_length])
theorem rec_count0 : ((recB u t kb bs c ++ rest).drop 8).take 1 = putB c 1 :=
  mid (P := [u] ++ (putB t 4 ++ (putB kb.length 1 ++ (putB bs.length 2)))) (Q := putB c 1) (R := putB (crcN (recHd u t kb.length bs.length c)) 2 ++ (kb ++ (bs ++ (putB (sumN (recBody u t kb bs c)) 4 ++ (rest))))) (by rw [rec_long]; first | done | simp only [List.append_assoc, List.nil_append]) (by simp [putB_length]) (by simp [putB_length])
theorem rec_crc0 : ((recB u t kb bs c ++ rest).drop 9).take 2 = putB (crcN (recHd u t kb.length bs.length c)) 2 :=
  mid (P := [u] ++ (putB t 4 ++ (putB kb.length 1 ++ (putB bs.length 2 ++ (putB c 1))))) (Q := putB (crcN (recHd u t kb.length bs.length c)) 2) (R := kb ++ (bs ++ (putB (sumN (recBody u t kb bs c)) 4 ++ (rest)))) (by rw [rec_long]; first | done | simp only [List.append_assoc, List.nil_append]) (by simp [putB_length]) (by simp [putB_length])
theorem rec_keyb : ((recB u t kb bs c ++ rest).drop 11).take kb.length = kb :=
  mid (P := [u] ++ (putB t 4 ++ (putB kb.length 1 ++ (putB bs.length 2 ++ (putB c 1 ++ (putB (crcN (recHd u t kb.length bs.length c)) 2)))))) (Q := kb) (R := bs ++ (putB (sumN (recBody u t kb bs c)) 4 ++ (rest))) (by rw [rec_long]; first | done | simp only [List.append_assoc, List.nil_append]) (by simp [putB_length]) (by simp [putB_length])
theorem rec_blobb : ((recB u t kb bs c ++ rest).drop (11 + kb.length)).take bs.length = bs :=
  mid (P := [u] ++ (putB t 4 ++ (putB kb.length 1 ++ (putB bs.length 2 ++ (putB c 1 ++ (putB (crcN (recHd u t kb.length bs.length c)) 2 ++ (kb))))))) (Q := bs) (R := putB (sumN (recBody u t kb bs c)) 4 ++ (rest)) (by rw [rec_long]; first | done | simp only [List.append_assoc, List.nil_append]) (by simp [putB_length]; omega) (by simp [putB_length])
theorem rec_sum0 : ((recB u t kb bs c ++ rest).drop (11 + kb.length + bs.length)).take 4 = putB (sumN (recBody u t kb bs c)) 4 :=
  mid (P := [u] ++ (putB t 4 ++ (putB kb.length 1 ++ (putB bs.length 2 ++ (putB c 1 ++ (putB (crcN (recHd u t kb.length bs.length c)) 2 ++ (kb ++ (bs)))))))) (Q := putB (sumN (recBody u t kb bs c)) 4) (R := rest) (by rw [rec_long]; first | done | simp only [List.append_assoc, List.nil_append]) (by simp [putB_length]; omega) (by simp [putB_length])
theorem rec_kind : getN (((recB u t kb bs c ++ rest).drop 0).take 1) = u.toNat := by rw [rec_kind0]; simp [getN]
theorem rec_txn (h : t < 4294967296) : getN (((recB u t kb bs c ++ rest).drop 1).take 4) = t := by rw [rec_txn0, get_put, Nat.mod_eq_of_lt (by omega)]
theorem rec_key (h : kb.length < 256) : getN (((recB u t kb bs c ++ rest).drop 5).take 1) = kb.length := by rw [rec_key0, get_put, Nat.mod_eq_of_lt (by omega)]
theorem rec_blob (h : bs.length < 65536) : getN (((recB u t kb bs c ++ rest).drop 6).take 2) = bs.length := by rw [rec_blob0, get_put, Nat.mod_eq_of_lt (by omega)]
theorem rec_count (h : c < 256) : getN (((recB u t kb bs c ++ rest).drop 8).take 1) = c := by rw [rec_count0, get_put, Nat.mod_eq_of_lt (by omega)]
theorem rec_sum : getN (((recB u t kb bs c ++ rest).drop (11 + kb.length + bs.length)).take 4) = sumN (recBody u t kb bs c) := by
  rw [rec_sum0, get_put, Nat.mod_eq_of_lt (by have := sumN_lt (recBody u t kb bs c); omega)]
theorem recB_length : (recB u t kb bs c).length = 15 + kb.length + bs.length := by
  unfold recB recBody
  simp [recHd_length, putB_length]; omega
end
end Go.Proofs.Ytechkdnoekffmaa
