/- num: the walks of Get and Put, and the reference's. No condition. -/
import Derived.Test.YtdnnodpchjnleaaNumPlain
import Derived.Test.YtdnnodpchjnleaaLib3
import Derived.Test.YtdnnodpchjnleaaBits
namespace Go.Proofs.Ytdnnodpchjnleaa
open Go.ChangeShapes Go.WideShapes Go.ChangeAt Go.RowKit
theorem oneN : OneE 23 5 (.int .u8 0) 1 := ⟨Try.underlying23, by kernel_rfl, rfl⟩

def IntR (n : Int) : Prop := -9223372036854775808 ≤ n ∧ n ≤ 9223372036854775807

set_option maxRecDepth 100000 in
set_option maxHeartbeats 1000000 in
theorem right_any (w : World) (n : Int) : Calls Try.prog 37 #[.int .i64 n] w fun e w' => e = .returned (.bool (decide (1 ≤ n ∧ n ≤ 8))) ∧ w = w' := by
  by_cases h1 : 1 ≤ n
  · by_cases h2 : n ≤ 8
    · rw [decide_eq_true ⟨h1, h2⟩]
      go_enter Try.func37, Try.ntmps37
      go_wp2
      go_ret
      exact ⟨rfl, rfl⟩
    · rw [decide_eq_false (by omega)]
      go_enter Try.func37, Try.ntmps37
      go_wp2
      go_ret
      exact ⟨rfl, rfl⟩
  · rw [decide_eq_false (by omega)]
    go_enter Try.func37, Try.ntmps37
    go_wp2
    go_ret
    exact ⟨rfl, rfl⟩

set_option maxRecDepth 100000 in
set_option maxHeartbeats 2000000 in
theorem Get_any (w : World) (a : Option Addr) (len cap : Nat) (bs : List UInt8) (i n : Int) (hs : Sl encB w a len bs) (hl : len ≤ 1048576) (hcap : len ≤ cap) (hi : IntR i) (hn : IntR n) :
    Calls Try.prog 21 #[.slice a len cap, .int .i64 i, .int .i64 n] w fun e w' => e = .returned (.tuple #[.int .u64 (getR bs i n).1, .int .i64 (getR bs i n).2]) ∧ w = w' := by
  have hbl := hs.1
  have HS := Lib.hid hs
  obtain ⟨i1, i2⟩ := hi
  obtain ⟨n1, n2⟩ := hn
  clear hs
  by_cases c1 : n < 1 ∨ 8 < n
  · have hR : getR bs i n = (0, 1) := by unfold getR; rw [if_pos c1]
    rw [hR]
    have hd : decide (1 ≤ n ∧ n ≤ 8) = false := decide_eq_false (by omega)
    clear hR
    go_enter Try.func21, Try.ntmps21
    go_wp2_with fail
    refine (right_any _ n).mono ?_
    rw [hd]
    rintro e w' ⟨rfl, rfl⟩
    go_wp2
    go_ret2
    exact ⟨rfl, rfl⟩
  have hd : decide (1 ≤ n ∧ n ≤ 8) = true := decide_eq_true (by omega)
  by_cases c2 : i < 0 ∨ (len : Int) < i ∨ (len : Int) - i < n
  · have hR : getR bs i n = (0, 6) := by unfold getR; rw [if_neg c1, hbl, if_pos c2]
    rw [hR]
    clear hR
    by_cases d1 : i < 0
    · have e1 := decide_eq_true d1
      go_enter Try.func21, Try.ntmps21
      go_wp2_with fail
      refine (right_any _ n).mono ?_
      rw [hd]
      rintro e w' ⟨rfl, rfl⟩
      go_wp2
      go_ret2
      exact ⟨rfl, rfl⟩
    have e1 := decide_eq_false d1
    by_cases d2 : (len : Int) < i
    · have e2 := decide_eq_true d2
      go_enter Try.func21, Try.ntmps21
      go_wp2_with fail
      refine (right_any _ n).mono ?_
      rw [hd]
      rintro e w' ⟨rfl, rfl⟩
      go_wp2
      go_ret2
      exact ⟨rfl, rfl⟩
    have e2 := decide_eq_false d2
    have e3 := decide_eq_true (show (len : Int) - i < n by omega)
    go_enter Try.func21, Try.ntmps21
    go_wp2_with fail
    refine (right_any _ n).mono ?_
    rw [hd]
    rintro e w' ⟨rfl, rfl⟩
    go_wp2
    go_ret2
    exact ⟨rfl, rfl⟩
  · have hR : getR bs i n = (((getN ((bs.drop i.toNat).take n.toNat) : Nat) : Int), (0 : Int)) := by unfold getR; rw [if_neg c1, hbl, if_neg c2]
    rw [hR]
    clear hR
    obtain ⟨j, rfl⟩ : ∃ j : Nat, i = j := ⟨i.toNat, by omega⟩
    obtain ⟨m, rfl⟩ : ∃ m : Nat, n = m := ⟨n.toNat, by omega⟩
    have j1 : j + m ≤ len := by omega
    have m1 : 1 ≤ m := by omega
    have m2 : m ≤ 8 := by omega
    clear i1 i2 n1 n2 c1 c2
    simp only [Int.toNat_natCast]
    obtain ⟨b, off, rfl, hbw, hc⟩ := HS.out.2 (by omega)
    have HC := Lib.hid hc
    obtain ⟨cs, hcs⟩ : ∃ cs, cs = (bs.drop j).take m := ⟨_, rfl⟩
    rw [← hcs]
    have HCS := Lib.hid hcs
    have hcl : cs.length = m := by rw [hcs]; simp; omega
    have HCL := Lib.hid hcl
    clear hcs hc hcl
    have e1 := decide_eq_false (show ¬ (j : Int) < 0 by omega)
    have e2 := decide_eq_false (show ¬ (len : Int) < (j : Int) by omega)
    have e3 := decide_eq_false (show ¬ (len : Int) - (j : Int) < (m : Int) by omega)
    have g1 : (0 : Int) ≤ (j : Int) := by omega
    have g2 : (j : Int) ≤ (len : Int) := by omega
    have g3 : (0 : Int) ≤ (m : Int) := by omega
    have g4 : (m : Int) ≤ (cap : Int) - (j : Int) := by omega
    have g5 : (len : Int) ≤ (cap : Int) := by omega
    go_enter Try.func21, Try.ntmps21
    go_wp2_with fail
    refine (right_any _ m).mono ?_
    rw [hd]
    rintro e w' ⟨rfl, rfl⟩
    go_wp2_with fail
    go_loopw [8, 38] (fun v i wr => ∃ k x : Nat, k ≤ m ∧ i = .int .i64 k ∧ v = .int .u64 x ∧ Hid (x = getN (cs.take k)) ∧ wr = w) (fun _ i _ => m - (intOf i).toNat)
    case atStart => exact ⟨0, 0, Nat.zero_le _, rfl, rfl, rfl, rfl⟩
    case round =>
      obtain ⟨k, x, hk, rfl, rfl, HX, rfl⟩ := hrel
      by_cases hlt : k < m
      · have hck : wr.cell? ⟨b, off + j + k, none⟩ = some (.int .u8 ((cs[k]'(by rw [HCL.out]; exact hlt)).toNat : Int)) := by
          have h1 := HC.out (j + k) (by omega)
          rw [Nat.add_assoc, h1]
          simp only [HCS.out, List.getElem_take, List.getElem_drop]
          rfl
        obtain ⟨c, hcc⟩ : ∃ c, c = (cs[k]'(by rw [HCL.out]; exact hlt)).toNat := ⟨_, rfl⟩
        rw [← hcc] at hck
        have hcl : c < 256 := by rw [hcc]; exact (cs[k]'(by rw [HCL.out]; exact hlt)).toNat_lt
        have HCC := Lib.hid hcc
        clear hcc
        have hx7 : x < 72057594037927936 := by rw [HX.out]; exact getN_take_lt _ _ (by omega)
        have hor := or64_join (x := x * 256) (y := c) (by omega) hcl (by omega)
        rw [show ((x * 256 : Nat) : Int) = (x : Int) * 256 by omega] at hor
        go_wp2
        go_roundw
        case rel => exact ⟨k + 1, x * 256 + c, by omega, by go_num, by go_num, by show _ = _; rw [getN_take cs k (by rw [HCL.out]; exact hlt), ← HX.out, ← HCC.out], trivial⟩
        case measure => simp [intOf]; omega
      · obtain rfl : k = m := by omega
        go_wp2
        go_ret2
        have h1 := HX.out
        rw [List.take_of_length_le (by rw [HCL.out]; omega)] at h1
        rw [h1]
        exact ⟨rfl, rfl⟩

set_option maxRecDepth 100000 in
set_option maxHeartbeats 2000000 in
theorem refGet_any (w : World) (a : Option Addr) (len cap : Nat) (bs : List UInt8) (i n : Int) (hs : Sl encB w a len bs) (hl : len ≤ 1048576) (hcap : len ≤ cap) (hi : IntR i) (hn : IntR n) :
    Calls Try.prog 23 #[.slice a len cap, .int .i64 i, .int .i64 n] w fun e w' => e = .returned (.tuple #[.int .u64 (getR bs i n).1, .int .i64 (getR bs i n).2]) ∧ w = w' := by
  have hbl := hs.1
  have HS := Lib.hid hs
  obtain ⟨i1, i2⟩ := hi
  obtain ⟨n1, n2⟩ := hn
  clear hs
  by_cases c1 : n < 1 ∨ 8 < n
  · have hR : getR bs i n = (0, 1) := by unfold getR; rw [if_pos c1]
    rw [hR]
    clear hR
    by_cases d1 : n < 1
    · have e1 := decide_eq_true d1
      go_enter Try.func23, Try.ntmps23
      go_wp2
      go_ret2
      exact ⟨rfl, rfl⟩
    · have e1 := decide_eq_false d1
      have e2 := decide_eq_true (show 8 < n by omega)
      go_enter Try.func23, Try.ntmps23
      go_wp2
      go_ret2
      exact ⟨rfl, rfl⟩
  have a1 := decide_eq_false (show ¬ n < 1 by omega)
  have a2 := decide_eq_false (show ¬ 8 < n by omega)
  by_cases c2 : i < 0 ∨ (len : Int) < i ∨ (len : Int) - i < n
  · have hR : getR bs i n = (0, 6) := by unfold getR; rw [if_neg c1, hbl, if_pos c2]
    rw [hR]
    clear hR
    by_cases d1 : i < 0
    · have e1 := decide_eq_true d1
      go_enter Try.func23, Try.ntmps23
      go_wp2
      go_ret2
      exact ⟨rfl, rfl⟩
    have e1 := decide_eq_false d1
    by_cases d2 : (len : Int) < i
    · have e2 := decide_eq_true d2
      go_enter Try.func23, Try.ntmps23
      go_wp2
      go_ret2
      exact ⟨rfl, rfl⟩
    have e2 := decide_eq_false d2
    have e3 := decide_eq_true (show (len : Int) - i < n by omega)
    go_enter Try.func23, Try.ntmps23
    go_wp2
    go_ret2
    exact ⟨rfl, rfl⟩
  · have hR : getR bs i n = (((getN ((bs.drop i.toNat).take n.toNat) : Nat) : Int), (0 : Int)) := by unfold getR; rw [if_neg c1, hbl, if_neg c2]
    rw [hR]
    clear hR
    obtain ⟨j, rfl⟩ : ∃ j : Nat, i = j := ⟨i.toNat, by omega⟩
    obtain ⟨m, rfl⟩ : ∃ m : Nat, n = m := ⟨n.toNat, by omega⟩
    have j1 : j + m ≤ len := by omega
    have m1 : 1 ≤ m := by omega
    have m2 : m ≤ 8 := by omega
    clear i1 i2 n1 n2 c1 c2
    simp only [Int.toNat_natCast]
    obtain ⟨b, off, rfl, hbw, hc⟩ := HS.out.2 (by omega)
    have HC := Lib.hid hc
    obtain ⟨cs, hcs⟩ : ∃ cs, cs = (bs.drop j).take m := ⟨_, rfl⟩
    rw [← hcs]
    have HCS := Lib.hid hcs
    have hcl : cs.length = m := by rw [hcs]; simp; omega
    have HCL := Lib.hid hcl
    clear hcs hc hcl
    have e1 := decide_eq_false (show ¬ (j : Int) < 0 by omega)
    have e2 := decide_eq_false (show ¬ (len : Int) < (j : Int) by omega)
    have e3 := decide_eq_false (show ¬ (len : Int) - (j : Int) < (m : Int) by omega)
    have g1 : (0 : Int) ≤ (j : Int) := by omega
    have g2 : (j : Int) ≤ (len : Int) := by omega
    have g3 : (j : Int) ≤ (j : Int) + (m : Int) := by omega
    have g4 : (j : Int) + (m : Int) ≤ (cap : Int) := by omega
    have g5 : (len : Int) ≤ (cap : Int) := by omega
    go_enter Try.func23, Try.ntmps23
    go_wp2_with fail
    go_loopw [8, 40] (fun v i wr => ∃ k x : Nat, k ≤ m ∧ i = .int .i64 k ∧ v = .int .u64 x ∧ Hid (x = getN (cs.take k)) ∧ wr = w) (fun _ i _ => m - (intOf i).toNat)
    case atStart => exact ⟨0, 0, Nat.zero_le _, rfl, rfl, rfl, rfl⟩
    case round =>
      obtain ⟨k, x, hk, rfl, rfl, HX, rfl⟩ := hrel
      by_cases hlt : k < m
      · have hck : wr.cell? ⟨b, off + j + k, none⟩ = some (.int .u8 ((cs[k]'(by rw [HCL.out]; exact hlt)).toNat : Int)) := by
          have h1 := HC.out (j + k) (by omega)
          rw [Nat.add_assoc, h1]
          simp only [HCS.out, List.getElem_take, List.getElem_drop]
          rfl
        obtain ⟨c, hcc⟩ : ∃ c, c = (cs[k]'(by rw [HCL.out]; exact hlt)).toNat := ⟨_, rfl⟩
        rw [← hcc] at hck
        have hcl : c < 256 := by rw [hcc]; exact (cs[k]'(by rw [HCL.out]; exact hlt)).toNat_lt
        have HCC := Lib.hid hcc
        clear hcc
        have hx7 : x < 72057594037927936 := by rw [HX.out]; exact getN_take_lt _ _ (by omega)
        go_wp2
        go_roundw
        case rel => exact ⟨k + 1, x * 256 + c, by omega, by go_num, by go_num, by show _ = _; rw [getN_take cs k (by rw [HCL.out]; exact hlt), ← HX.out, ← HCC.out], trivial⟩
        case measure => simp [intOf]; omega
      · obtain rfl : k = m := by omega
        go_wp2
        go_ret2
        have h1 := HX.out
        rw [List.take_of_length_le (by rw [HCL.out]; omega)] at h1
        rw [h1]
        exact ⟨rfl, rfl⟩

set_option maxRecDepth 100000 in
set_option maxHeartbeats 2000000 in
theorem Put_any (w : World) (a : Option Addr) (len cap : Nat) (bs : List UInt8) (v n : Nat) (hs : Sl encB w a len bs) (hl : len ≤ 1048576) (hcap : len ≤ cap) (hv : v < 18446744073709551616) (n1 : 1 ≤ n) (n2 : n ≤ 8) :
    Calls Try.prog 24 #[.slice a len cap, .int .u64 v, .int .i64 n] w (OwnRet encB 5 w.heap.size w (bs ++ putB v n)) := by
  have HS := Lib.hid hs
  clear hs
  have hd : decide (1 ≤ (n : Int) ∧ (n : Int) ≤ 8) = true := decide_eq_true (by omega)
  have g5 : (len : Int) ≤ (cap : Int) := by omega
  go_enter Try.func24, Try.ntmps24
  go_wp2_with fail
  refine (right_any _ n).mono ?_
  rw [hd]
  rintro e w' ⟨rfl, rfl⟩
  go_wp2_with fail
  go_loopw [0, 19] (fun s i wr => ∃ k : Nat, k ≤ n ∧ i = .int .i64 k ∧ (k = 0 ∧ s = .slice a len len ∨ 0 < k ∧ Hid (wr.ownsRow w.heap.size 5 1 s (len + k) ((bs ++ (putB v n).take k).map encB))) ∧ Hid (Below w.heap.size w wr)) (fun _ i _ => n - (intOf i).toNat)
  case atStart => exact ⟨0, Nat.zero_le _, rfl, .inl ⟨rfl, rfl⟩, Below.refl _ _⟩
  case round =>
    obtain ⟨k, hk, rfl, hor, HW⟩ := hrel
    by_cases hlt : k < n
    · rcases hor with ⟨rfl, rfl⟩ | ⟨hk0, HO⟩
      · go_wp2_with (at_builtin; refine wpList_app_full_lit (enc := encB) oneN rfl _ _ rfl w.heap.size a len len bs rfl (HS.out.below HW.out) _ 1 _ rfl rfl rfl (by omega) (Nat.le_refl _) (by omega) (by unfold maxLen; omega) HW.out.size ?_; intro v1 w1 hown1 hb1; rw [shr_byte] at hown1; have HO1 := Lib.hid hown1; have HB1 := Lib.hid (HW.out.trans hb1); clear hown1 hb1)
        go_roundw
        case rel => exact ⟨1, by omega, by go_num, .inr ⟨by omega, by rw [putB_take1 v n (by omega), List.map_append]; simp only [List.map_cons, List.map_nil, encB_byte]; exact HO1⟩, HB1⟩
        case measure => simp [intOf]; omega
      · go_wp2_with (at_builtin; refine wpList_app_lit oneN rfl _ _ rfl w.heap.size _ _ _ rfl HO.out _ 1 _ rfl rfl rfl (by omega) (by unfold maxLen; omega) HW.out.size ?_; intro v1 w1 hown1 hg1 hb1; rw [shr_byte] at hown1; have HO1 := Lib.hid hown1; have HB1 := Lib.hid (HW.out.trans hb1); clear hown1 hb1 hg1)
        go_roundw
        case rel => exact ⟨k + 1, by omega, by go_num, .inr ⟨by omega, by rw [putB_take v n k hlt, ← List.append_assoc, List.map_append (l₁ := bs ++ _)]; simp only [List.map_cons, List.map_nil, encB_byte]; exact HO1⟩, HB1⟩
        case measure => simp [intOf]; omega
    · obtain rfl : k = n := by omega
      rcases hor with ⟨rfl, rfl⟩ | ⟨hk0, HO⟩
      · omega
      go_wp2
      go_ret
      exact ⟨_, _, rfl, by have h := HO.out; rwa [List.take_of_length_le (by rw [putB_length]; omega)] at h, HW.out⟩

set_option maxRecDepth 100000 in
set_option maxHeartbeats 2000000 in
theorem Put_odd (w : World) (a : Option Addr) (len cap : Nat) (v n : Int) (hcap : len ≤ cap) (hn : n < 1 ∨ 8 < n) :
    Calls Try.prog 24 #[.slice a len cap, .int .u64 v, .int .i64 n] w fun e w' => e = .returned (.slice a len len) ∧ w = w' := by
  have hd : decide (1 ≤ n ∧ n ≤ 8) = false := decide_eq_false (by omega)
  have g5 : (len : Int) ≤ (cap : Int) := by omega
  go_enter Try.func24, Try.ntmps24
  go_wp2_with fail
  refine (right_any _ n).mono ?_
  rw [hd]
  rintro e w' ⟨rfl, rfl⟩
  go_wp2
  go_ret
  exact ⟨rfl, rfl⟩

set_option maxRecDepth 100000 in
set_option maxHeartbeats 2000000 in
theorem refPut_any (w : World) (a : Option Addr) (len cap : Nat) (bs : List UInt8) (v n : Nat) (hs : Sl encB w a len bs) (hl : len ≤ 1048576) (hv : v < 18446744073709551616) (n1 : 1 ≤ n) (n2 : n ≤ 8) :
    Calls Try.prog 25 #[.slice a len cap, .int .u64 v, .int .i64 n] w (OwnRet encB 5 w.heap.size w (bs ++ putB v n)) := by
  have HS := Lib.hid hs
  have HO0 := Lib.hid (own_empty w w.heap.size 5 (Nat.le_refl _))
  have HB0 := Lib.hid ((Below.refl w.heap.size w).alloc (Nat.le_refl _) (.cells #[] 5))
  clear hs
  have e1 := decide_eq_false (show ¬ (n : Int) < 1 by omega)
  have e2 := decide_eq_false (show ¬ 8 < (n : Int) by omega)
  go_enter Try.func25, Try.ntmps25
  go_wp2_with (at_builtin; refine wpList_app1 oneN rfl _ _ _ rfl w.heap.size _ _ _ rfl HO0.out _ _ _ rfl ((HS.out.below HB0.out).src encB_cell Try.underlying23 _) (by omega) (by unfold maxLen; omega) HB0.out.size ?_; intro v2 w2 hown2 hg2 hb2; have HO2 := Lib.hid hown2; have HB2 := Lib.hid (HB0.out.trans hb2); clear hown2 hg2 hb2)
  go_loopw [7, 8] (fun s i wr => ∃ k : Nat, k ≤ n ∧ i = .int .i64 ((n : Int) - 1 - k) ∧ Hid (wr.ownsRow w.heap.size 5 1 s (len + k) ((bs ++ (putB v n).take k).map encB)) ∧ Hid (Below w.heap.size w wr)) (fun _ i _ => (intOf i + 1).toNat)
  case atStart => exact ⟨0, Nat.zero_le _, by go_num, by have h := HO2.out; simp only [Nat.zero_add, List.map_nil, List.nil_append] at h; simp only [Nat.add_zero, List.take_zero, List.append_nil]; exact h, HB2⟩
  case round =>
    obtain ⟨k, hk, rfl, HO, HW⟩ := hrel
    by_cases hlt : k < n
    · go_wp2_with (at_builtin; refine wpList_app_lit oneN rfl _ _ rfl w.heap.size _ _ _ rfl HO.out _ 1 _ rfl rfl rfl (by omega) (by unfold maxLen; omega) HW.out.size ?_; intro v1 w1 hown1 hg1 hb1; rw [shr_byte, tmod_byte] at hown1; have HO1 := Lib.hid hown1; have HB1 := Lib.hid (HW.out.trans hb1); clear hown1 hb1 hg1)
      go_roundw
      case rel => exact ⟨k + 1, by omega, by go_num, by rw [putB_take v n k hlt, ← List.append_assoc, List.map_append (l₁ := bs ++ _)]; simp only [List.map_cons, List.map_nil, encB_byte]; exact HO1, HB1⟩
      case measure => simp [intOf]; omega
    · obtain rfl : k = n := by omega
      go_wp2
      go_ret
      exact ⟨_, _, rfl, by have h := HO.out; rwa [List.take_of_length_le (by rw [putB_length]; omega)] at h, HW.out⟩

set_option maxRecDepth 100000 in
set_option maxHeartbeats 2000000 in
theorem refPut_odd (w : World) (a : Option Addr) (len cap : Nat) (bs : List UInt8) (v n : Int) (hs : Sl encB w a len bs) (hl : len ≤ 1048576) (hn : n < 1 ∨ 8 < n) :
    Calls Try.prog 25 #[.slice a len cap, .int .u64 v, .int .i64 n] w (OwnRet encB 5 w.heap.size w bs) := by
  have HS := Lib.hid hs
  have HO0 := Lib.hid (own_empty w w.heap.size 5 (Nat.le_refl _))
  have HB0 := Lib.hid ((Below.refl w.heap.size w).alloc (Nat.le_refl _) (.cells #[] 5))
  clear hs
  by_cases d1 : n < 1
  · have e1 := decide_eq_true d1
    go_enter Try.func25, Try.ntmps25
    go_wp2_with (at_builtin; refine wpList_app1 oneN rfl _ _ _ rfl w.heap.size _ _ _ rfl HO0.out _ _ _ rfl ((HS.out.below HB0.out).src encB_cell Try.underlying23 _) (by omega) (by unfold maxLen; omega) HB0.out.size ?_; intro v2 w2 hown2 hg2 hb2; have HO2 := Lib.hid hown2; have HB2 := Lib.hid (HB0.out.trans hb2); clear hown2 hg2 hb2)
    go_ret
    exact ⟨_, _, rfl, HO2.out, HB2.out⟩
  · have e1 := decide_eq_false d1
    have e2 := decide_eq_true (show 8 < n by omega)
    go_enter Try.func25, Try.ntmps25
    go_wp2_with (at_builtin; refine wpList_app1 oneN rfl _ _ _ rfl w.heap.size _ _ _ rfl HO0.out _ _ _ rfl ((HS.out.below HB0.out).src encB_cell Try.underlying23 _) (by omega) (by unfold maxLen; omega) HB0.out.size ?_; intro v2 w2 hown2 hg2 hb2; have HO2 := Lib.hid hown2; have HB2 := Lib.hid (HB0.out.trans hb2); clear hown2 hg2 hb2)
    go_ret
    exact ⟨_, _, rfl, HO2.out, HB2.out⟩
end Go.Proofs.Ytdnnodpchjnleaa
