/- rec: Parse of a record some of whose bytes were turned. No condition. -/
import Derived.Test.YtkieconmbeblgaaRecLaw2
namespace Go.Proofs.Ytkieconmbeblgaa
open Go.ChangeShapes Go.WideShapes Go.ChangeAt Go.RowKit
set_option maxRecDepth 100000 in
set_option maxHeartbeats 4000000 in
theorem refRight5_all (w : World) (k t : Int) (kb : List UInt8) (a : Option Addr) (n cap : Nat) (c : Int) (hk : IntR k) (ht : 0 ≤ t) (hc : IntR c) :
    Calls Try.prog 10 #[recL k t kb a n cap c] w fun e w' => e = .returned (.bool (recOk k t kb.length n c)) ∧ Below w.heap.size w w' := by
  obtain ⟨k1, k2⟩ := hk
  obtain ⟨c1, c2⟩ := hc
  by_cases k0 : t < 1
  · rw [show recOk k t kb.length n c = false from decide_eq_false (by omega)]
    go_enter Try.func10, Try.ntmps10
    go_wp2_with fail
    all_goals (go_ret; first | exact ⟨rfl, (Below.refl _ _).alloc (Nat.le_refl _) _⟩ | exact ⟨ret_no (by omega), (Below.refl _ _).alloc (Nat.le_refl _) _⟩ | exact ⟨ret_yes (by omega), (Below.refl _ _).alloc (Nat.le_refl _) _⟩)
  by_cases d1 : k = 1
  · subst d1
    by_cases q1 : kb.length < 1
    · rw [show recOk 1 t kb.length n c = false from decide_eq_false (by omega)]
      go_enter Try.func10, Try.ntmps10
      go_wp2_with fail
      all_goals (go_ret; first | exact ⟨rfl, (Below.refl _ _).alloc (Nat.le_refl _) _⟩ | exact ⟨ret_no (by omega), (Below.refl _ _).alloc (Nat.le_refl _) _⟩ | exact ⟨ret_yes (by omega), (Below.refl _ _).alloc (Nat.le_refl _) _⟩)
    by_cases q2 : 64 < kb.length
    · rw [show recOk 1 t kb.length n c = false from decide_eq_false (by omega)]
      go_enter Try.func10, Try.ntmps10
      go_wp2_with fail
      all_goals (go_ret; first | exact ⟨rfl, (Below.refl _ _).alloc (Nat.le_refl _) _⟩ | exact ⟨ret_no (by omega), (Below.refl _ _).alloc (Nat.le_refl _) _⟩ | exact ⟨ret_yes (by omega), (Below.refl _ _).alloc (Nat.le_refl _) _⟩)
    by_cases q3 : 4096 < n
    · rw [show recOk 1 t kb.length n c = false from decide_eq_false (by omega)]
      go_enter Try.func10, Try.ntmps10
      go_wp2_with fail
      all_goals (go_ret; first | exact ⟨rfl, (Below.refl _ _).alloc (Nat.le_refl _) _⟩ | exact ⟨ret_no (by omega), (Below.refl _ _).alloc (Nat.le_refl _) _⟩ | exact ⟨ret_yes (by omega), (Below.refl _ _).alloc (Nat.le_refl _) _⟩)
    by_cases q4 : ¬ c = 0
    · rw [show recOk 1 t kb.length n c = false from decide_eq_false (by omega)]
      have e4 : (c == 0) = false := eqi_no q4
      go_enter Try.func10, Try.ntmps10
      go_wp2_with fail
      all_goals (go_ret; first | exact ⟨rfl, (Below.refl _ _).alloc (Nat.le_refl _) _⟩ | exact ⟨ret_no (by omega), (Below.refl _ _).alloc (Nat.le_refl _) _⟩ | exact ⟨ret_yes (by omega), (Below.refl _ _).alloc (Nat.le_refl _) _⟩)
    obtain rfl : c = 0 := by omega
    rw [show recOk 1 t kb.length n 0 = true from decide_eq_true (by omega)]
    go_enter Try.func10, Try.ntmps10
    go_wp2_with fail
    all_goals (go_ret; first | exact ⟨rfl, (Below.refl _ _).alloc (Nat.le_refl _) _⟩ | exact ⟨ret_no (by omega), (Below.refl _ _).alloc (Nat.le_refl _) _⟩ | exact ⟨ret_yes (by omega), (Below.refl _ _).alloc (Nat.le_refl _) _⟩)
  by_cases d2 : k = 2
  · subst d2
    by_cases q1 : kb.length < 1
    · rw [show recOk 2 t kb.length n c = false from decide_eq_false (by omega)]
      go_enter Try.func10, Try.ntmps10
      go_wp2_with fail
      all_goals (go_ret; first | exact ⟨rfl, (Below.refl _ _).alloc (Nat.le_refl _) _⟩ | exact ⟨ret_no (by omega), (Below.refl _ _).alloc (Nat.le_refl _) _⟩ | exact ⟨ret_yes (by omega), (Below.refl _ _).alloc (Nat.le_refl _) _⟩)
    by_cases q2 : 64 < kb.length
    · rw [show recOk 2 t kb.length n c = false from decide_eq_false (by omega)]
      go_enter Try.func10, Try.ntmps10
      go_wp2_with fail
      all_goals (go_ret; first | exact ⟨rfl, (Below.refl _ _).alloc (Nat.le_refl _) _⟩ | exact ⟨ret_no (by omega), (Below.refl _ _).alloc (Nat.le_refl _) _⟩ | exact ⟨ret_yes (by omega), (Below.refl _ _).alloc (Nat.le_refl _) _⟩)
    by_cases q3 : ¬ n = 0
    · rw [show recOk 2 t kb.length n c = false from decide_eq_false (by omega)]
      have e3 : ((n : Int) == 0) = false := eqi_no (by omega)
      go_enter Try.func10, Try.ntmps10
      go_wp2_with fail
      all_goals (go_ret; first | exact ⟨rfl, (Below.refl _ _).alloc (Nat.le_refl _) _⟩ | exact ⟨ret_no (by omega), (Below.refl _ _).alloc (Nat.le_refl _) _⟩ | exact ⟨ret_yes (by omega), (Below.refl _ _).alloc (Nat.le_refl _) _⟩)
    by_cases q4 : ¬ c = 0
    · rw [show recOk 2 t kb.length n c = false from decide_eq_false (by omega)]
      have e4 : (c == 0) = false := eqi_no q4
      go_enter Try.func10, Try.ntmps10
      go_wp2_with fail
      all_goals (go_ret; first | exact ⟨rfl, (Below.refl _ _).alloc (Nat.le_refl _) _⟩ | exact ⟨ret_no (by omega), (Below.refl _ _).alloc (Nat.le_refl _) _⟩ | exact ⟨ret_yes (by omega), (Below.refl _ _).alloc (Nat.le_refl _) _⟩)
    obtain rfl : c = 0 := by omega
    obtain rfl : n = 0 := by omega
    rw [show recOk 2 t kb.length 0 0 = true from decide_eq_true (by omega)]
    go_enter Try.func10, Try.ntmps10
    go_wp2_with fail
    all_goals (go_ret; first | exact ⟨rfl, (Below.refl _ _).alloc (Nat.le_refl _) _⟩ | exact ⟨ret_no (by omega), (Below.refl _ _).alloc (Nat.le_refl _) _⟩ | exact ⟨ret_yes (by omega), (Below.refl _ _).alloc (Nat.le_refl _) _⟩)
  by_cases d3 : k = 3
  · subst d3
    by_cases q1 : ¬ kb = []
    · have hl : kb.length ≠ 0 := fun h => q1 (List.eq_nil_of_length_eq_zero h)
      have e1 : (kb == []) = false := by simpa using q1
      rw [show recOk 3 t kb.length n c = false from decide_eq_false (by omega)]
      go_enter Try.func10, Try.ntmps10
      go_wp2_with fail
      all_goals (go_ret; first | exact ⟨rfl, (Below.refl _ _).alloc (Nat.le_refl _) _⟩ | exact ⟨ret_no (by omega), (Below.refl _ _).alloc (Nat.le_refl _) _⟩ | exact ⟨ret_yes (by omega), (Below.refl _ _).alloc (Nat.le_refl _) _⟩)
    obtain rfl : kb = [] := Classical.not_not.1 q1
    by_cases q2 : ¬ n = 0
    · rw [show recOk 3 t ([] : List UInt8).length n c = false from decide_eq_false (by have hz : ([] : List UInt8).length = 0 := rfl; omega)]
      have e2 : ((n : Int) == 0) = false := eqi_no (by omega)
      go_enter Try.func10, Try.ntmps10
      go_wp2_with fail
      all_goals (go_ret; first | exact ⟨rfl, (Below.refl _ _).alloc (Nat.le_refl _) _⟩ | exact ⟨ret_no (by omega), (Below.refl _ _).alloc (Nat.le_refl _) _⟩ | exact ⟨ret_yes (by omega), (Below.refl _ _).alloc (Nat.le_refl _) _⟩)
    by_cases q3 : c < 0
    · rw [show recOk 3 t ([] : List UInt8).length n c = false from decide_eq_false (by have hz : ([] : List UInt8).length = 0 := rfl; omega)]
      go_enter Try.func10, Try.ntmps10
      go_wp2_with fail
      all_goals (go_ret; first | exact ⟨rfl, (Below.refl _ _).alloc (Nat.le_refl _) _⟩ | exact ⟨ret_no (by omega), (Below.refl _ _).alloc (Nat.le_refl _) _⟩ | exact ⟨ret_yes (by omega), (Below.refl _ _).alloc (Nat.le_refl _) _⟩)
    by_cases q4 : 16 < c
    · rw [show recOk 3 t ([] : List UInt8).length n c = false from decide_eq_false (by have hz : ([] : List UInt8).length = 0 := rfl; omega)]
      go_enter Try.func10, Try.ntmps10
      go_wp2_with fail
      all_goals (go_ret; first | exact ⟨rfl, (Below.refl _ _).alloc (Nat.le_refl _) _⟩ | exact ⟨ret_no (by omega), (Below.refl _ _).alloc (Nat.le_refl _) _⟩ | exact ⟨ret_yes (by omega), (Below.refl _ _).alloc (Nat.le_refl _) _⟩)
    obtain rfl : n = 0 := by omega
    rw [show recOk 3 t ([] : List UInt8).length 0 c = true from decide_eq_true (by have hz : ([] : List UInt8).length = 0 := rfl; omega)]
    go_enter Try.func10, Try.ntmps10
    go_wp2_with fail
    all_goals (go_ret; first | exact ⟨rfl, (Below.refl _ _).alloc (Nat.le_refl _) _⟩ | exact ⟨ret_no (by omega), (Below.refl _ _).alloc (Nat.le_refl _) _⟩ | exact ⟨ret_yes (by omega), (Below.refl _ _).alloc (Nat.le_refl _) _⟩)
  have e1 : (k == 1) = false := eqi_no d1
  have e2 : (k == 2) = false := eqi_no d2
  have e3 : (k == 3) = false := eqi_no d3
  rw [show recOk k t kb.length n c = false from decide_eq_false (by omega)]
  go_enter Try.func10, Try.ntmps10
  go_wp2_with fail
  all_goals (go_ret; first | exact ⟨rfl, (Below.refl _ _).alloc (Nat.le_refl _) _⟩ | exact ⟨ret_no (by omega), (Below.refl _ _).alloc (Nat.le_refl _) _⟩ | exact ⟨ret_yes (by omega), (Below.refl _ _).alloc (Nat.le_refl _) _⟩)
theorem part_early {X : List UInt8} {i k m : Nat} (h : i + k ≤ m) : (X.drop i).take k = ((X.take m).drop i).take k := by
  rw [List.drop_take, List.take_take, Nat.min_eq_left (by omega)]
theorem getD_early {X : List UInt8} {i m : Nat} (h : i < m) : X.getD i 0 = (X.take m).getD i 0 := by
  simp [List.getD, List.getElem?_take, h]
/-- Turned in its first nine bytes. -/
def NotRead (w : World) (e : Ending) (w' : World) : Prop := ∃ er : Int, er ≠ 0 ∧ ParseNo 0 er w e w'
theorem Parse_hd (w : World) (a : Option Addr) (n cap : Nat) (u : UInt8) (t : Nat) (kb bs : List UInt8) (c : Nat) (hd : List UInt8) (R : List UInt8) (hs : Sl encB w a n (hd ++ R)) (hn : n ≤ 65536) (hcap : n ≤ cap) (hl : hd.length = 9)
    (hR : R = (recB u t kb bs c ++ [0]).drop 9) (hne : crcN hd ≠ crcN (recHd u t kb.length bs.length c)) :
    Calls Try.prog 7 #[.slice a n cap] w (NotRead w) := by
  have hlen : n = 16 + kb.length + bs.length := by
    have h := hs.1
    rw [List.length_append, hl, hR, List.length_drop, List.length_append, recB_length] at h
    simp at h; omega
  by_cases h255 : (hd ++ R).getD 0 0 = 255
  · exact (Parse_none w a n cap _ hs hn (.inr h255)).mono fun e w' h => ⟨11, by decide, h⟩
  · have ht9 : (hd ++ R).take 9 = hd := List.take_left' hl
    have hp := rec_crc0 u t kb bs c [0]
    have e9 := getD_part hp (j := 0) (by omega)
    have e10 := getD_part hp (j := 1) (by omega)
    rw [putB_two] at e9 e10
    have hcr := crcN_lt (recHd u t kb.length bs.length c)
    have hcr2 := crcN_lt hd
    have g9 : (hd ++ R).getD 9 0 = (recB u t kb bs c ++ [0]).getD 9 0 := by
      rw [hR]; simp [List.getD, List.getElem?_append, hl]
    have g10 : (hd ++ R).getD 10 0 = (recB u t kb bs c ++ [0]).getD 10 0 := by
      rw [hR]; simp [List.getD, List.getElem?_append, hl]
    have v9 : ((hd ++ R).getD 9 0).toNat = crcN (recHd u t kb.length bs.length c) / 256 := by
      rw [g9, show (9 : Nat) = 9 + 0 from rfl, e9]; show (UInt8.ofNat _).toNat = _; rw [UInt8.toNat_ofNat_of_lt' (by show _ < 256; omega)]; omega
    have v10 : ((hd ++ R).getD 10 0).toNat = crcN (recHd u t kb.length bs.length c) % 256 := by
      rw [g10, show (10 : Nat) = 9 + 1 from rfl, e10]; show (UInt8.ofNat _).toNat = _; rw [UInt8.toNat_ofNat_of_lt' (by show _ < 256; omega)]
    by_cases h9 : crcN hd / 256 = crcN (recHd u t kb.length bs.length c) / 256
    · have h10 : crcN hd % 256 ≠ crcN (recHd u t kb.length bs.length c) % 256 := by omega
      exact (Parse_sum2 w a n cap _ hs hn hcap h255 (by omega) (by rw [ht9, v9, h9]) (by rw [ht9, v10]; exact h10)).mono fun e w' h => ⟨7, by decide, h⟩
    · exact (Parse_sum1 w a n cap _ hs hn hcap h255 (by omega) (by rw [ht9, v9]; exact h9)).mono fun e w' h => ⟨7, by decide, h⟩
/-- Turned in its key or blob. -/
theorem Parse_body (w : World) (a : Option Addr) (n cap : Nat) (u : UInt8) (t : Nat) (kb bs : List UInt8) (c : Nat) (ms : List UInt8) (R : List UInt8) (hs : Sl encB w a n (ms ++ R)) (hn : n ≤ 65536) (hcap : n ≤ cap)
    (hl : ms.length = 11 + kb.length + bs.length) (h11 : ms.take 11 = (recB u t kb bs c ++ [0]).take 11) (hR : R = (recB u t kb bs c ++ [0]).drop (11 + kb.length + bs.length))
    (hr : recOk u.toNat t kb.length bs.length c = true) (ht : t < 4294967296) (hne : sumN ms ≠ sumN (recBody u t kb bs c)) :
    Calls Try.prog 7 #[.slice a n cap] w (ParseNo (11 + (kb.length : Int) + (bs.length : Int) + 5) 0 w) := by
  have hlen : n = 16 + kb.length + bs.length := by
    have h := hs.1
    rw [List.length_append, hl, hR, List.length_drop, List.length_append, recB_length] at h
    simp at h; omega
  have hd := of_decide_eq_true hr
  have hu : u.toNat ≤ 3 := by omega
  have hX : (ms ++ R).take 11 = (recB u t kb bs c ++ [0]).take 11 := by rw [List.take_append_of_le_length (by omega)]; exact h11
  have hP : ∀ i k, i + k ≤ 11 → ((ms ++ R).drop i).take k = ((recB u t kb bs c ++ [0]).drop i).take k := fun i k h => by rw [part_early h, hX, ← part_early h]
  have hG : ∀ i, i < 11 → (ms ++ R).getD i 0 = (recB u t kb bs c ++ [0]).getD i 0 := fun i h => by rw [getD_early h, hX, ← getD_early h]
  have ek := rec_kind u t kb bs c [0]
  have et := rec_txn u t kb bs c [0] ht
  have ey := rec_key u t kb bs c [0] (by omega)
  have eb := rec_blob u t kb bs c [0] (by omega)
  have ec := rec_count u t kb bs c [0] (by omega)
  have hcr := crcN_lt (recHd u t kb.length bs.length c)
  have hp := rec_crc0 u t kb bs c [0]
  have e0 : (recB u t kb bs c ++ [0]).getD 0 0 = u := by
    have := getD_part (rec_kind0 u t kb bs c [0]) (j := 0) (by omega)
    simpa using this
  have e9 := getD_part hp (j := 0) (by omega)
  have e10 := getD_part hp (j := 1) (by omega)
  rw [putB_two] at e9 e10
  have h9 : (ms ++ R).take 9 = recHd u t kb.length bs.length c := by
    have := hP 0 9 (by omega)
    simp only [List.drop_zero] at this
    rw [this]; exact rec_hd u t kb bs c [0]
  have hsm : ((ms ++ R).drop (11 + kb.length + bs.length)).take 4 = putB (sumN (recBody u t kb bs c)) 4 := by
    rw [List.drop_left' hl, hR]; exact rec_sum0 u t kb bs c [0]
  have h := Parse_bad w a n cap _ hs hn hcap (by rw [hG 0 (by omega), e0]; intro h; rw [h] at hu; exact absurd hu (by decide)) (by omega)
    (by rw [h9, hG 9 (by omega), show (9 : Nat) = 9 + 0 from rfl, e9]; show _ = (UInt8.ofNat _).toNat; rw [UInt8.toNat_ofNat_of_lt' (by show _ < 256; omega)]; omega)
    (by rw [h9, hG 10 (by omega), show (10 : Nat) = 9 + 1 from rfl, e10]; show _ = (UInt8.ofNat _).toNat; rw [UInt8.toNat_ofNat_of_lt' (by show _ < 256; omega)])
    (by rw [hP 0 1 (by omega), hP 1 4 (by omega), hP 5 1 (by omega), hP 6 2 (by omega), hP 8 1 (by omega), ek, et, ey, eb, ec]; exact hr)
    (by rw [hP 5 1 (by omega), hP 6 2 (by omega), ey, eb]; omega)
    (by rw [hP 5 1 (by omega), hP 6 2 (by omega), ey, eb, hsm, List.take_left' hl, get_put, Nat.mod_eq_of_lt (by have := sumN_lt (recBody u t kb bs c); omega)]; exact hne)
  rw [hP 5 1 (by omega), hP 6 2 (by omega), ey, eb] at h
  exact h
end Go.Proofs.Ytkieconmbeblgaa
