/- image: ImageLinks. No condition. -/
import Derived.Test.YtbcldlbmbdfejaaImgLaw
namespace Go.Proofs.Ytbcldlbmbdfejaa
open Go.ChangeShapes Go.WideShapes Go.ChangeAt Go.RowKit
/-- What is put stands there. -/
theorem get_put_atI (pre t : List UInt8) (v m : Nat) (h1 : 1 ≤ m) (h8 : m ≤ 8) : getR (pre ++ (putB v m ++ t)) (pre.length : Nat) (m : Nat) = (((v % 256 ^ m : Nat) : Int), 0) := by
  unfold getR
  rw [if_neg (by omega), if_neg (by simp [putB_length]; omega)]
  simp only [Int.toNat_natCast]
  rw [List.drop_left, List.take_append_of_le_length (by rw [putB_length]; exact Nat.le_refl _), List.take_of_length_le (by rw [putB_length]; exact Nat.le_refl _), get_put]
theorem get_put_0 (pre t : List UInt8) (v m : Nat) (h8 : m ≤ 8) (hv : v < 256 ^ m) : (getR (pre ++ (putB v m ++ t)) (pre.length : Nat) (m : Nat)).1 = (v : Int) := by
  by_cases h0 : m = 0
  · subst h0
    have : v = 0 := by simp at hv; omega
    subst this
    unfold getR
    rw [if_pos (by omega)]
    rfl
  · rw [get_put_atI pre t v m (by omega) h8, Nat.mod_eq_of_lt hv]
theorem room_u64 {v : Int} {n : Nat} (hn : n ≤ 2) (h : roomB v n = true) : (u64V v : Int) = v ∧ u64V v < 256 ^ n := by
  unfold roomB at h
  have h2 := of_decide_eq_true h
  have e : (2 : Int) ^ (8 * n) = ((256 ^ n : Nat) : Int) := by
    have : n = 0 ∨ n = 1 ∨ n = 2 := by omega
    rcases this with rfl | rfl | rfl <;> decide
  have h3 : (256 ^ n : Nat) ≤ 65536 := by
    have : n = 0 ∨ n = 1 ∨ n = 2 := by omega
    rcases this with rfl | rfl | rfl <;> decide
  rw [e] at h2
  unfold u64V
  omega
theorem signB_mod (v : Nat) (n : Nat) (h1 : 1 ≤ n) (h8 : n ≤ 8) : signB ((v % 256 ^ n : Nat) : Int) n = signB (v : Int) n := by
  unfold signB
  rw [if_neg (by omega), if_neg (by omega)]
  have e : (2 : Int) ^ (8 * ((n : Int)).toNat) = ((256 ^ n : Nat) : Int) := by
    rw [Int.toNat_natCast]
    have : (256 : Nat) ^ n = 2 ^ (8 * n) := by rw [show (256 : Nat) = 2 ^ 8 from rfl, ← Nat.pow_mul]
    rw [this]
    norm_cast
  rw [e]
  congr 1
  rw [Int.natCast_emod, Int.emod_add_emod]
theorem next_link (pre t : List UInt8) (r : LK) (hr : r.right) (ho : r.ok = true) : nextR (pre ++ (r.bytes ++ t)) (pre.length : Nat) = ⟨r.op, r.a, r.b, r.n, (r.bytes.length : Nat), 0⟩ := by
  obtain ⟨o, x, y, z⟩ := r
  obtain ⟨hop, hx, hy, hz⟩ := hr
  simp only at hop hx hy hz
  obtain ⟨wa, wb, wn, ok, hq⟩ : ∃ wa wb wn ok, imgW o = (wa, wb, wn, ok) := ⟨_, _, _, _, rfl⟩
  have hsm := imgW_small ⟨o, hop⟩
  simp only [hq] at hsm
  obtain ⟨ha2, hb1, hn8⟩ := hsm
  unfold LK.ok at ho
  simp only [hq, Bool.and_eq_true] at ho
  obtain ⟨⟨⟨rfl, ra⟩, rb⟩, rn⟩ := ho
  have hby : LK.bytes ⟨o, x, y, z⟩ = [UInt8.ofNat o] ++ putB (u64V x) wa ++ putB (u64V y) wb ++ putB (u64V z) wn := by unfold LK.bytes; simp only [hq]
  rw [hby]
  have hlen : ([UInt8.ofNat o] ++ putB (u64V x) wa ++ putB (u64V y) wb ++ putB (u64V z) wn).length = 1 + wa + wb + wn := by simp [putB_length]; omega
  rw [hlen]
  unfold nextR
  have hk : ((pre ++ ([UInt8.ofNat o] ++ putB (u64V x) wa ++ putB (u64V y) wb ++ putB (u64V z) wn ++ t)).getD ((pre.length : Nat) : Int).toNat 0).toNat = o := by
    rw [Int.toNat_natCast]
    simp only [List.getD_eq_getElem?_getD, List.getElem?_append_right (Nat.le_refl _), Nat.sub_self, List.append_assoc, List.cons_append, List.nil_append, List.getElem?_cons_zero, Option.getD_some]
    exact UInt8.toNat_ofNat_of_lt' hop
  rw [if_neg (by rw [List.length_append, List.length_append, hlen]; omega)]
  simp only [hk, hq]
  rw [if_neg (by decide), if_neg (by rw [List.length_append, List.length_append, hlen]; omega)]
  obtain ⟨ea, la⟩ := room_u64 ha2 ra
  obtain ⟨eb, lb⟩ := room_u64 (by omega) rb
  have e1 : pre ++ ([UInt8.ofNat o] ++ putB (u64V x) wa ++ putB (u64V y) wb ++ putB (u64V z) wn ++ t) = (pre ++ [UInt8.ofNat o]) ++ (putB (u64V x) wa ++ (putB (u64V y) wb ++ putB (u64V z) wn ++ t)) := by simp only [List.append_assoc]
  have e2 : pre ++ ([UInt8.ofNat o] ++ putB (u64V x) wa ++ putB (u64V y) wb ++ putB (u64V z) wn ++ t) = (pre ++ [UInt8.ofNat o] ++ putB (u64V x) wa) ++ (putB (u64V y) wb ++ (putB (u64V z) wn ++ t)) := by simp only [List.append_assoc]
  have e3 : pre ++ ([UInt8.ofNat o] ++ putB (u64V x) wa ++ putB (u64V y) wb ++ putB (u64V z) wn ++ t) = (pre ++ [UInt8.ofNat o] ++ putB (u64V x) wa ++ putB (u64V y) wb) ++ (putB (u64V z) wn ++ t) := by simp only [List.append_assoc]
  have g1 := get_put_0 (pre ++ [UInt8.ofNat o]) (putB (u64V y) wb ++ putB (u64V z) wn ++ t) (u64V x) wa (by omega) la
  have g2 := get_put_0 (pre ++ [UInt8.ofNat o] ++ putB (u64V x) wa) (putB (u64V z) wn ++ t) (u64V y) wb (by omega) lb
  rw [← e1] at g1
  rw [← e2] at g2
  have l1 : ((pre ++ [UInt8.ofNat o]).length : Int) = (pre.length : Int) + 1 := by simp
  have l2 : ((pre ++ [UInt8.ofNat o] ++ putB (u64V x) wa).length : Int) = (pre.length : Int) + 1 + wa := by simp [putB_length]; omega
  have l3 : ((pre ++ [UInt8.ofNat o] ++ putB (u64V x) wa ++ putB (u64V y) wb).length : Int) = (pre.length : Int) + 1 + wa + wb := by simp [putB_length]; omega
  rw [l1] at g1
  rw [l2] at g2
  rw [g1, g2, ea, eb]
  have g3 : signB (getR (pre ++ ([UInt8.ofNat o] ++ putB (u64V x) wa ++ putB (u64V y) wb ++ putB (u64V z) wn ++ t)) ((pre.length : Int) + 1 + wa + wb) wn).1 wn = z := by
    unfold sgnB at rn
    by_cases h0 : wn = 0
    · subst h0
      rw [if_pos rfl] at rn
      have hz0 := of_decide_eq_true rn
      rw [signB_odd _ _ (by omega), hz0]
    · rw [if_neg h0] at rn
      have hz0 := of_decide_eq_true rn
      have g := get_put_atI (pre ++ [UInt8.ofNat o] ++ putB (u64V x) wa ++ putB (u64V y) wb) t (u64V z) wn (by omega) hn8
      rw [← e3, l3] at g
      rw [g, signB_mod _ _ (by omega) hn8]
      exact hz0
  rw [g3]
  congr 1
theorem places_at (L : List LK) (i : Nat) (hi : i ≤ L.length) : (placesL L)[i]? = some (lkB (L.take i)).length := by
  unfold placesL
  rw [List.getElem?_map, List.getElem?_range (by omega)]
  rfl
theorem next_at (L : List LK) (i : Nat) (r : LK) (h : L[i]? = some r) (hr : r.right) (ho : r.ok = true) : nextR (lkB L) ((lkB (L.take i)).length : Nat) = ⟨r.op, r.a, r.b, r.n, (r.bytes.length : Nat), 0⟩ := by
  obtain ⟨hj, he⟩ := List.getElem?_eq_some_iff.1 h
  have e : lkB L = lkB (L.take i) ++ (r.bytes ++ lkB (L.drop (i + 1))) := by
    unfold lkB
    rw [← List.append_assoc, ← List.flatMap_singleton (f := LK.bytes) (x := r), ← List.flatMap_append, ← List.flatMap_append, ← he, List.append_assoc, List.singleton_append, ← List.drop_eq_getElem_cons hj, List.take_append_drop]
  rw [e]
  exact next_link _ _ r hr ho
set_option maxRecDepth 100000 in
set_option maxHeartbeats 8000000 in
theorem sameInts_any (w : World) (a : Option Addr) (n cap : Nat) (xs : List Int) (hs : Sl encZ w a n xs) (b : Option Addr) (m cm : Nat) (ys : List Int) (ht : Sl encZ w b m ys) (hn : n ≤ 9223372036854775806) (hm : m ≤ 9223372036854775806) :
    Calls Try.prog 17 #[.slice a n cap, .slice b m cm] w fun e w' => e = .returned (.bool (decide (xs = ys))) ∧ Below w.heap.size w w' := by
  have HS := Lib.hid hs
  have HT := Lib.hid ht
  have HL1 := Lib.hid hs.1
  have HL2 := Lib.hid ht.1
  clear hs ht
  go_enter Try.func17, Try.ntmps17
  by_cases hnm : n = m
  case neg =>
    have e1 : ((n : Int) != (m : Int)) = true := by simp; omega
    have HF := Lib.hid (show decide (xs = ys) = false from decide_eq_false (fun h => hnm (by rw [← HL1.out, ← HL2.out, h])))
    clear hnm
    go_wp2_with fail
    go_ret
    exact ⟨by rw [HF.out]; rfl, Below.refl _ _⟩
  subst hnm
  go_wp2_with fail
  go_loopg [13] n (fun gn i wr => ∃ j : Nat, j ≤ n ∧ gn = n - j ∧ i = .int .i64 j ∧ Hid (xs.take j = ys.take j) ∧ Hid (Below w.heap.size w wr))
  case atStart => exact ⟨0, by omega, by omega, by go_num, Lib.hid rfl, Lib.hid (Below.refl _ _)⟩
  case round =>
    obtain ⟨j, hj, rfl, rfl, HQ, HB⟩ := hrel
    by_cases hlt : j < n
    · obtain ⟨b1, o1, x, rfl, hb1, hx, q1⟩ := (HS.out.below HB.out).getZ j hlt
      obtain ⟨b2, o2, y, rfl, hb2, hy, q2⟩ := (HT.out.below HB.out).getZ j hlt
      have HX := Lib.hid hx
      have HY := Lib.hid hy
      clear hx hy
      by_cases hxy : x = y
      · have e1 : (x != y) = false := by simp [hxy]
        have HN := Lib.hid (show xs.take (j + 1) = ys.take (j + 1) by rw [take_snocX HX.out, take_snocX HY.out, HQ.out, hxy])
        clear hxy HQ
        go_wp2_with fail
        go_quiet (fail)
        go_wp2_with fail
        go_roundg (n - (j + 1))
        case measure => omega
        case rel => exact ⟨j + 1, by omega, rfl, by go_num, HN, Lib.hid (bdrewN HB.out _)⟩
      · have e1 : (x != y) = true := by simp [hxy]
        have HF := Lib.hid (show decide (xs = ys) = false from decide_eq_false (fun h => hxy (by have h1 := HX.out; rw [h, HY.out] at h1; simpa using h1.symm)))
        clear hxy HQ
        go_wp2_with fail
        go_quiet (fail)
        go_wp2_with fail
        go_ret
        exact ⟨by rw [HF.out]; rfl, bdrewN HB.out _⟩
    · obtain rfl : n = j := by omega
      have HF := Lib.hid (show decide (xs = ys) = true from decide_eq_true (by have h := HQ.out; rwa [List.take_of_length_le (by rw [HL1.out]; exact Nat.le_refl _), List.take_of_length_le (by rw [HL2.out]; exact Nat.le_refl _)] at h))
      go_wp2_with fail
      go_ret
      exact ⟨by rw [HF.out]; rfl, HB.out⟩
end Go.Proofs.Ytbcldlbmbdfejaa
