/- num: the walks of Get and Put, and the reference's. No condition. -/
import Derived.Test.YtbcldlbmbdfejaaQ01ImageBytes
import Derived.Test.YtbcldlbmbdfejaaQ00ImageBytes
import Derived.Deep.LoopGhost
import Derived.Deep.DeepCutAuto
namespace Go.Proofs.Ytbcldlbmbdfejaa
open Go.ChangeShapes Go.WideShapes Go.ChangeAt Go.RowKit
theorem oneN : OneE 35 5 (.int .u8 0) 1 := ⟨Try.underlying35, by kernel_rfl, rfl⟩

def IntR (n : Int) : Prop := -9223372036854775808 ≤ n ∧ n ≤ 9223372036854775807

set_option maxRecDepth 100000 in
set_option maxHeartbeats 1000000 in
theorem right_any (w : World) (n : Int) : Calls Try.prog 73 #[.int .i64 n] w fun e w' => e = .returned (.bool (decide (1 ≤ n ∧ n ≤ 8))) ∧ w = w' := by
  by_cases h1 : 1 ≤ n
  · by_cases h2 : n ≤ 8
    · rw [decide_eq_true ⟨h1, h2⟩]
      go_enter Try.func73, Try.ntmps73
      go_wp2
      go_ret
      exact ⟨rfl, rfl⟩
    · rw [decide_eq_false (by omega)]
      go_enter Try.func73, Try.ntmps73
      go_wp2
      go_ret
      exact ⟨rfl, rfl⟩
  · rw [decide_eq_false (by omega)]
    go_enter Try.func73, Try.ntmps73
    go_wp2
    go_ret
    exact ⟨rfl, rfl⟩

set_option maxRecDepth 100000 in
set_option maxHeartbeats 2000000 in
theorem Get_any (w : World) (a : Option Addr) (len cap : Nat) (bs : List UInt8) (i n : Int) (hs : Sl encB w a len bs) (hl : len ≤ 1048576) (hcap : len ≤ cap) (hi : IntR i) (hn : IntR n) :
    Calls Try.prog 48 #[.slice a len cap, .int .i64 i, .int .i64 n] w fun e w' => e = .returned (.tuple #[.int .u64 (getR bs i n).1, .int .i64 (getR bs i n).2]) ∧ w = w' := by
  have hbl := hs.1
  have HS := Lib.hid hs
  obtain ⟨i1, i2⟩ := hi
  obtain ⟨n1, n2⟩ := hn
  clear hs
  by_cases c1 : n < 1 ∨ 8 < n
  · have hR : getR bs i n = (0, 1) := by unfold getR; rw [if_pos c1]
    rw [hR]
    have hd : decide (1 ≤ n ∧ n ≤ 8) = false := decide_eq_false (by omega)
    clear hR
    go_enter Try.func48, Try.ntmps48
    go_wp2_with fail
    refine (right_any _ n).mono ?_
    rw [hd]
    rintro e w' ⟨rfl, rfl⟩
    go_wp2
    go_ret2
    exact ⟨rfl, rfl⟩
  have hd : decide (1 ≤ n ∧ n ≤ 8) = true := decide_eq_true (by omega)
  by_cases c2 : i < 0 ∨ (len : Int) < i ∨ (len : Int) - i < n
  · have hR : getR bs i n = (0, 6) := by unfold getR; rw [if_neg c1, hbl, if_pos c2]
    rw [hR]
    clear hR
    by_cases d1 : i < 0
    · have e1 := decide_eq_true d1
      go_enter Try.func48, Try.ntmps48
      go_wp2_with fail
      refine (right_any _ n).mono ?_
      rw [hd]
      rintro e w' ⟨rfl, rfl⟩
      go_wp2
      go_ret2
      exact ⟨rfl, rfl⟩
    have e1 := decide_eq_false d1
    by_cases d2 : (len : Int) < i
    · have e2 := decide_eq_true d2
      go_enter Try.func48, Try.ntmps48
      go_wp2_with fail
      refine (right_any _ n).mono ?_
      rw [hd]
      rintro e w' ⟨rfl, rfl⟩
      go_wp2
      go_ret2
      exact ⟨rfl, rfl⟩
    have e2 := decide_eq_false d2
    have e3 := decide_eq_true (show (len : Int) - i < n by omega)
    go_enter Try.func48, Try.ntmps48
    go_wp2_with fail
    refine (right_any _ n).mono ?_
    rw [hd]
    rintro e w' ⟨rfl, rfl⟩
    go_wp2
    go_ret2
    exact ⟨rfl, rfl⟩
  · have hR : getR bs i n = (((getN ((bs.drop i.toNat).take n.toNat) : Nat) : Int), (0 : Int)) := by unfold getR; rw [if_neg c1, hbl, if_neg c2]
    rw [hR]
    clear hR
    obtain ⟨j, rfl⟩ : ∃ j : Nat, i = j := ⟨i.toNat, by omega⟩
    obtain ⟨m, rfl⟩ : ∃ m : Nat, n = m := ⟨n.toNat, by omega⟩
    have j1 : j + m ≤ len := by omega
    have m1 : 1 ≤ m := by omega
    have m2 : m ≤ 8 := by omega
    clear i1 i2 n1 n2 c1 c2
    simp only [Int.toNat_natCast]
    obtain ⟨b, off, rfl, hbw, hc⟩ := HS.out.2 (by omega)
    have HC := Lib.hid hc
    obtain ⟨cs, hcs⟩ : ∃ cs, cs = (bs.drop j).take m := ⟨_, rfl⟩
    rw [← hcs]
    have HCS := Lib.hid hcs
    have hcl : cs.length = m := by rw [hcs]; simp; omega
    have HCL := Lib.hid hcl
    clear hcs hc hcl
    have e1 := decide_eq_false (show ¬ (j : Int) < 0 by omega)
    have e2 := decide_eq_false (show ¬ (len : Int) < (j : Int) by omega)
    have e3 := decide_eq_false (show ¬ (len : Int) - (j : Int) < (m : Int) by omega)
    have g1 : (0 : Int) ≤ (j : Int) := by omega
    have g2 : (j : Int) ≤ (len : Int) := by omega
    have g3 : (0 : Int) ≤ (m : Int) := by omega
    have g4 : (m : Int) ≤ (cap : Int) - (j : Int) := by omega
    have g5 : (len : Int) ≤ (cap : Int) := by omega
    go_enter Try.func48, Try.ntmps48
    go_wp2_with fail
    refine (right_any _ m).mono ?_
    rw [hd]
    rintro e w' ⟨rfl, rfl⟩
    go_wp2_with fail
    go_loopw [8, 38] (fun v i wr => ∃ k x : Nat, k ≤ m ∧ i = .int .i64 k ∧ v = .int .u64 x ∧ Hid (x = getN (cs.take k)) ∧ wr = w) (fun _ i _ => m - (intOf i).toNat)
    case atStart => exact ⟨0, 0, Nat.zero_le _, rfl, rfl, rfl, rfl⟩
    case round =>
      obtain ⟨k, x, hk, rfl, rfl, HX, rfl⟩ := hrel
      by_cases hlt : k < m
      · have hck : wr.cell? ⟨b, off + j + k, none⟩ = some (.int .u8 ((cs[k]'(by rw [HCL.out]; exact hlt)).toNat : Int)) := by
          have h1 := HC.out (j + k) (by omega)
          rw [Nat.add_assoc, h1]
          simp only [HCS.out, List.getElem_take, List.getElem_drop]
          rfl
        obtain ⟨c, hcc⟩ : ∃ c, c = (cs[k]'(by rw [HCL.out]; exact hlt)).toNat := ⟨_, rfl⟩
        rw [← hcc] at hck
        have hcl : c < 256 := by rw [hcc]; exact (cs[k]'(by rw [HCL.out]; exact hlt)).toNat_lt
        have HCC := Lib.hid hcc
        clear hcc
        have hx7 : x < 72057594037927936 := by rw [HX.out]; exact getN_take_lt _ _ (by omega)
        have hor := or64_join (x := x * 256) (y := c) (by omega) hcl (by omega)
        rw [show ((x * 256 : Nat) : Int) = (x : Int) * 256 by omega] at hor
        go_wp2
        go_roundw
        case rel => exact ⟨k + 1, x * 256 + c, by omega, by go_num, by go_num, by show _ = _; rw [getN_take cs k (by rw [HCL.out]; exact hlt), ← HX.out, ← HCC.out], trivial⟩
        case measure => simp [intOf]; omega
      · obtain rfl : k = m := by omega
        go_wp2
        go_ret2
        have h1 := HX.out
        rw [List.take_of_length_le (by rw [HCL.out]; omega)] at h1
        rw [h1]
        exact ⟨rfl, rfl⟩

set_option maxRecDepth 100000 in
set_option maxHeartbeats 2000000 in
theorem refGet_any (w : World) (a : Option Addr) (len cap : Nat) (bs : List UInt8) (i n : Int) (hs : Sl encB w a len bs) (hl : len ≤ 1048576) (hcap : len ≤ cap) (hi : IntR i) (hn : IntR n) :
    Calls Try.prog 51 #[.slice a len cap, .int .i64 i, .int .i64 n] w fun e w' => e = .returned (.tuple #[.int .u64 (getR bs i n).1, .int .i64 (getR bs i n).2]) ∧ w = w' := by
  have hbl := hs.1
  have HS := Lib.hid hs
  obtain ⟨i1, i2⟩ := hi
  obtain ⟨n1, n2⟩ := hn
  clear hs
  by_cases c1 : n < 1 ∨ 8 < n
  · have hR : getR bs i n = (0, 1) := by unfold getR; rw [if_pos c1]
    rw [hR]
    clear hR
    by_cases d1 : n < 1
    · have e1 := decide_eq_true d1
      go_enter Try.func51, Try.ntmps51
      go_wp2
      go_ret2
      exact ⟨rfl, rfl⟩
    · have e1 := decide_eq_false d1
      have e2 := decide_eq_true (show 8 < n by omega)
      go_enter Try.func51, Try.ntmps51
      go_wp2
      go_ret2
      exact ⟨rfl, rfl⟩
  have a1 := decide_eq_false (show ¬ n < 1 by omega)
  have a2 := decide_eq_false (show ¬ 8 < n by omega)
  by_cases c2 : i < 0 ∨ (len : Int) < i ∨ (len : Int) - i < n
  · have hR : getR bs i n = (0, 6) := by unfold getR; rw [if_neg c1, hbl, if_pos c2]
    rw [hR]
    clear hR
    by_cases d1 : i < 0
    · have e1 := decide_eq_true d1
      go_enter Try.func51, Try.ntmps51
      go_wp2
      go_ret2
      exact ⟨rfl, rfl⟩
    have e1 := decide_eq_false d1
    by_cases d2 : (len : Int) < i
    · have e2 := decide_eq_true d2
      go_enter Try.func51, Try.ntmps51
      go_wp2
      go_ret2
      exact ⟨rfl, rfl⟩
    have e2 := decide_eq_false d2
    have e3 := decide_eq_true (show (len : Int) - i < n by omega)
    go_enter Try.func51, Try.ntmps51
    go_wp2
    go_ret2
    exact ⟨rfl, rfl⟩
  · have hR : getR bs i n = (((getN ((bs.drop i.toNat).take n.toNat) : Nat) : Int), (0 : Int)) := by unfold getR; rw [if_neg c1, hbl, if_neg c2]
    rw [hR]
    clear hR
    obtain ⟨j, rfl⟩ : ∃ j : Nat, i = j := ⟨i.toNat, by omega⟩
    obtain ⟨m, rfl⟩ : ∃ m : Nat, n = m := ⟨n.toNat, by omega⟩
    have j1 : j + m ≤ len := by omega
    have m1 : 1 ≤ m := by omega
    have m2 : m ≤ 8 := by omega
    clear i1 i2 n1 n2 c1 c2
    simp only [Int.toNat_natCast]
    obtain ⟨b, off, rfl, hbw, hc⟩ := HS.out.2 (by omega)
    have HC := Lib.hid hc
    obtain ⟨cs, hcs⟩ : ∃ cs, cs = (bs.drop j).take m := ⟨_, rfl⟩
    rw [← hcs]
    have HCS := Lib.hid hcs
    have hcl : cs.length = m := by rw [hcs]; simp; omega
    have HCL := Lib.hid hcl
    clear hcs hc hcl
    have e1 := decide_eq_false (show ¬ (j : Int) < 0 by omega)
    have e2 := decide_eq_false (show ¬ (len : Int) < (j : Int) by omega)
    have e3 := decide_eq_false (show ¬ (len : Int) - (j : Int) < (m : Int) by omega)
    have g1 : (0 : Int) ≤ (j : Int) := by omega
    have g2 : (j : Int) ≤ (len : Int) := by omega
    have g3 : (j : Int) ≤ (j : Int) + (m : Int) := by omega
    have g4 : (j : Int) + (m : Int) ≤ (cap : Int) := by omega
    have g5 : (len : Int) ≤ (cap : Int) := by omega
    go_enter Try.func51, Try.ntmps51
    go_wp2_with fail
    go_loopw [8, 40] (fun v i wr => ∃ k x : Nat, k ≤ m ∧ i = .int .i64 k ∧ v = .int .u64 x ∧ Hid (x = getN (cs.take k)) ∧ wr = w) (fun _ i _ => m - (intOf i).toNat)
    case atStart => exact ⟨0, 0, Nat.zero_le _, rfl, rfl, rfl, rfl⟩
    case round =>
      obtain ⟨k, x, hk, rfl, rfl, HX, rfl⟩ := hrel
      by_cases hlt : k < m
      · have hck : wr.cell? ⟨b, off + j + k, none⟩ = some (.int .u8 ((cs[k]'(by rw [HCL.out]; exact hlt)).toNat : Int)) := by
          have h1 := HC.out (j + k) (by omega)
          rw [Nat.add_assoc, h1]
          simp only [HCS.out, List.getElem_take, List.getElem_drop]
          rfl
        obtain ⟨c, hcc⟩ : ∃ c, c = (cs[k]'(by rw [HCL.out]; exact hlt)).toNat := ⟨_, rfl⟩
        rw [← hcc] at hck
        have hcl : c < 256 := by rw [hcc]; exact (cs[k]'(by rw [HCL.out]; exact hlt)).toNat_lt
        have HCC := Lib.hid hcc
        clear hcc
        have hx7 : x < 72057594037927936 := by rw [HX.out]; exact getN_take_lt _ _ (by omega)
        go_wp2
        go_roundw
        case rel => exact ⟨k + 1, x * 256 + c, by omega, by go_num, by go_num, by show _ = _; rw [getN_take cs k (by rw [HCL.out]; exact hlt), ← HX.out, ← HCC.out], trivial⟩
        case measure => simp [intOf]; omega
      · obtain rfl : k = m := by omega
        go_wp2
        go_ret2
        have h1 := HX.out
        rw [List.take_of_length_le (by rw [HCL.out]; omega)] at h1
        rw [h1]
        exact ⟨rfl, rfl⟩

set_option maxRecDepth 100000 in
set_option maxHeartbeats 2000000 in
theorem Put_any (w : World) (a : Option Addr) (len cap : Nat) (bs : List UInt8) (v n : Nat) (hs : Sl encB w a len bs) (hl : len ≤ 1048576) (hcap : len ≤ cap) (hv : v < 18446744073709551616) (n1 : 1 ≤ n) (n2 : n ≤ 8) :
    Calls Try.prog 45 #[.slice a len cap, .int .u64 v, .int .i64 n] w (OwnRet encB 5 w.heap.size w (bs ++ putB v n)) := by
  have HS := Lib.hid hs
  clear hs
  have hd : decide (1 ≤ (n : Int) ∧ (n : Int) ≤ 8) = true := decide_eq_true (by omega)
  have g5 : (len : Int) ≤ (cap : Int) := by omega
  go_enter Try.func45, Try.ntmps45
  go_wp2_with fail
  refine (right_any _ n).mono ?_
  rw [hd]
  rintro e w' ⟨rfl, rfl⟩
  go_wp2_with fail
  go_loopw [0, 19] (fun s i wr => ∃ k : Nat, k ≤ n ∧ i = .int .i64 k ∧ (k = 0 ∧ s = .slice a len len ∨ 0 < k ∧ Hid (wr.ownsRow w.heap.size 5 1 s (len + k) ((bs ++ (putB v n).take k).map encB))) ∧ Hid (Below w.heap.size w wr)) (fun _ i _ => n - (intOf i).toNat)
  case atStart => exact ⟨0, Nat.zero_le _, rfl, .inl ⟨rfl, rfl⟩, Below.refl _ _⟩
  case round =>
    obtain ⟨k, hk, rfl, hor, HW⟩ := hrel
    by_cases hlt : k < n
    · rcases hor with ⟨rfl, rfl⟩ | ⟨hk0, HO⟩
      · go_wp2_with (at_builtin; refine wpList_app_full_lit (enc := encB) oneN rfl _ _ rfl w.heap.size a len len bs rfl (HS.out.below HW.out) _ 1 _ rfl rfl rfl (by omega) (Nat.le_refl _) (by omega) (by unfold maxLen; omega) HW.out.size ?_; intro v1 w1 hown1 hb1; rw [shr_byte] at hown1; have HO1 := Lib.hid hown1; have HB1 := Lib.hid (HW.out.trans hb1); clear hown1 hb1)
        go_roundw
        case rel => exact ⟨1, by omega, by go_num, .inr ⟨by omega, by rw [putB_take1 v n (by omega), List.map_append]; simp only [List.map_cons, List.map_nil, encB_byte]; exact HO1⟩, HB1⟩
        case measure => simp [intOf]; omega
      · go_wp2_with (at_builtin; refine wpList_app_lit oneN rfl _ _ rfl w.heap.size _ _ _ rfl HO.out _ 1 _ rfl rfl rfl (by omega) (by unfold maxLen; omega) HW.out.size ?_; intro v1 w1 hown1 hg1 hb1; rw [shr_byte] at hown1; have HO1 := Lib.hid hown1; have HB1 := Lib.hid (HW.out.trans hb1); clear hown1 hb1 hg1)
        go_roundw
        case rel => exact ⟨k + 1, by omega, by go_num, .inr ⟨by omega, by rw [putB_take v n k hlt, ← List.append_assoc, List.map_append (l₁ := bs ++ _)]; simp only [List.map_cons, List.map_nil, encB_byte]; exact HO1⟩, HB1⟩
        case measure => simp [intOf]; omega
    · obtain rfl : k = n := by omega
      rcases hor with ⟨rfl, rfl⟩ | ⟨hk0, HO⟩
      · omega
      go_wp2
      go_ret
      exact ⟨_, _, rfl, by have h := HO.out; rwa [List.take_of_length_le (by rw [putB_length]; omega)] at h, HW.out⟩

set_option maxRecDepth 100000 in
set_option maxHeartbeats 2000000 in
theorem Put_odd (w : World) (a : Option Addr) (len cap : Nat) (v n : Int) (hcap : len ≤ cap) (hn : n < 1 ∨ 8 < n) :
    Calls Try.prog 45 #[.slice a len cap, .int .u64 v, .int .i64 n] w fun e w' => e = .returned (.slice a len len) ∧ w = w' := by
  have hd : decide (1 ≤ n ∧ n ≤ 8) = false := decide_eq_false (by omega)
  have g5 : (len : Int) ≤ (cap : Int) := by omega
  go_enter Try.func45, Try.ntmps45
  go_wp2_with fail
  refine (right_any _ n).mono ?_
  rw [hd]
  rintro e w' ⟨rfl, rfl⟩
  go_wp2
  go_ret
  exact ⟨rfl, rfl⟩

set_option maxRecDepth 100000 in
set_option maxHeartbeats 2000000 in
theorem refPut_any (w : World) (a : Option Addr) (len cap : Nat) (bs : List UInt8) (v n : Nat) (hs : Sl encB w a len bs) (hl : len ≤ 1048576) (hv : v < 18446744073709551616) (n1 : 1 ≤ n) (n2 : n ≤ 8) :
    Calls Try.prog 76 #[.slice a len cap, .int .u64 v, .int .i64 n] w (OwnRet encB 5 w.heap.size w (bs ++ putB v n)) := by
  have HS := Lib.hid hs
  have HO0 := Lib.hid (own_empty w w.heap.size 5 (Nat.le_refl _))
  have HB0 := Lib.hid ((Below.refl w.heap.size w).alloc (Nat.le_refl _) (.cells #[] 5))
  clear hs
  have e1 := decide_eq_false (show ¬ (n : Int) < 1 by omega)
  have e2 := decide_eq_false (show ¬ 8 < (n : Int) by omega)
  go_enter Try.func76, Try.ntmps76
  go_wp2_with (at_builtin; refine wpList_app1 oneN rfl _ _ _ rfl w.heap.size _ _ _ rfl HO0.out _ _ _ rfl ((HS.out.below HB0.out).src encB_cell Try.underlying35 _) (by omega) (by unfold maxLen; omega) HB0.out.size ?_; intro v2 w2 hown2 hg2 hb2; have HO2 := Lib.hid hown2; have HB2 := Lib.hid (HB0.out.trans hb2); clear hown2 hg2 hb2)
  go_loopw [7, 8] (fun s i wr => ∃ k : Nat, k ≤ n ∧ i = .int .i64 ((n : Int) - 1 - k) ∧ Hid (wr.ownsRow w.heap.size 5 1 s (len + k) ((bs ++ (putB v n).take k).map encB)) ∧ Hid (Below w.heap.size w wr)) (fun _ i _ => (intOf i + 1).toNat)
  case atStart => exact ⟨0, Nat.zero_le _, by go_num, by have h := HO2.out; simp only [Nat.zero_add, List.map_nil, List.nil_append] at h; simp only [Nat.add_zero, List.take_zero, List.append_nil]; exact h, HB2⟩
  case round =>
    obtain ⟨k, hk, rfl, HO, HW⟩ := hrel
    by_cases hlt : k < n
    · go_wp2_with (at_builtin; refine wpList_app_lit oneN rfl _ _ rfl w.heap.size _ _ _ rfl HO.out _ 1 _ rfl rfl rfl (by omega) (by unfold maxLen; omega) HW.out.size ?_; intro v1 w1 hown1 hg1 hb1; rw [shr_byte, tmod_byte] at hown1; have HO1 := Lib.hid hown1; have HB1 := Lib.hid (HW.out.trans hb1); clear hown1 hb1 hg1)
      go_roundw
      case rel => exact ⟨k + 1, by omega, by go_num, by rw [putB_take v n k hlt, ← List.append_assoc, List.map_append (l₁ := bs ++ _)]; simp only [List.map_cons, List.map_nil, encB_byte]; exact HO1, HB1⟩
      case measure => simp [intOf]; omega
    · obtain rfl : k = n := by omega
      go_wp2
      go_ret
      exact ⟨_, _, rfl, by have h := HO.out; rwa [List.take_of_length_le (by rw [putB_length]; omega)] at h, HW.out⟩

set_option maxRecDepth 100000 in
set_option maxHeartbeats 2000000 in
theorem refPut_odd (w : World) (a : Option Addr) (len cap : Nat) (bs : List UInt8) (v n : Int) (hs : Sl encB w a len bs) (hl : len ≤ 1048576) (hn : n < 1 ∨ 8 < n) :
    Calls Try.prog 76 #[.slice a len cap, .int .u64 v, .int .i64 n] w (OwnRet encB 5 w.heap.size w bs) := by
  have HS := Lib.hid hs
  have HO0 := Lib.hid (own_empty w w.heap.size 5 (Nat.le_refl _))
  have HB0 := Lib.hid ((Below.refl w.heap.size w).alloc (Nat.le_refl _) (.cells #[] 5))
  clear hs
  by_cases d1 : n < 1
  · have e1 := decide_eq_true d1
    go_enter Try.func76, Try.ntmps76
    go_wp2_with (at_builtin; refine wpList_app1 oneN rfl _ _ _ rfl w.heap.size _ _ _ rfl HO0.out _ _ _ rfl ((HS.out.below HB0.out).src encB_cell Try.underlying35 _) (by omega) (by unfold maxLen; omega) HB0.out.size ?_; intro v2 w2 hown2 hg2 hb2; have HO2 := Lib.hid hown2; have HB2 := Lib.hid (HB0.out.trans hb2); clear hown2 hg2 hb2)
    go_ret
    exact ⟨_, _, rfl, HO2.out, HB2.out⟩
  · have e1 := decide_eq_false d1
    have e2 := decide_eq_true (show 8 < n by omega)
    go_enter Try.func76, Try.ntmps76
    go_wp2_with (at_builtin; refine wpList_app1 oneN rfl _ _ _ rfl w.heap.size _ _ _ rfl HO0.out _ _ _ rfl ((HS.out.below HB0.out).src encB_cell Try.underlying35 _) (by omega) (by unfold maxLen; omega) HB0.out.size ?_; intro v2 w2 hown2 hg2 hb2; have HO2 := Lib.hid hown2; have HB2 := Lib.hid (HB0.out.trans hb2); clear hown2 hg2 hb2)
    go_ret
    exact ⟨_, _, rfl, HO2.out, HB2.out⟩
end Go.Proofs.Ytbcldlbmbdfejaa
/- ops: spans and forms. No condition. -/
namespace Go.Proofs.Ytbcldlbmbdfejaa
open Go.ChangeShapes Go.WideShapes Go.ChangeAt Go.RowKit
theorem Ss.lit {α : Type} {z : Nat} {enc : α → List Value} (hz : ∀ x, (enc x).length = z) {w : World} {g n : Nat} {xs : List α} {C : Array Value} {e : TypeId} {fr : Nat × Nat} (hg : w.heap[g]? = some (.cells C e fr)) (hC : C = (xs.flatMap enc).toArray) (hn : xs.length = n) : Ss z enc w (some ⟨g, 0, none⟩) n xs := by
  subst hC
  refine ⟨hn, fun _ => ⟨g, 0, rfl, (Array.getElem?_eq_some_iff.1 hg).1, fun i hi j hj => ?_⟩⟩
  rw [cell_of_row w g (0 + i * z + j) _ e fr hg, Nat.zero_add]
  simp only [List.getElem?_toArray]
  exact flat_at hz xs i hi j hj
def SpansRet (w : World) (e : Ending) (w' : World) : Prop := e = .returned (.slice (some ⟨w.heap.size, 0, none⟩) 38 38) ∧ Ss 3 spCells w' (some ⟨w.heap.size, 0, none⟩) 38 spansL ∧ Below w.heap.size w w' ∧ w'.heap.size = w.heap.size + 1
set_option maxRecDepth 100000 in
set_option maxHeartbeats 4000000 in
theorem spans_any (w : World) : Calls Try.prog 79 #[] w (SpansRet w) := by
  go_enter Try.func79, Try.ntmps79
  go_wp2_with fail
  go_ret
  exact ⟨rfl, Ss.lit spCells_length (heap_alloc_last w _) rfl rfl, (Below.refl _ _).alloc (Nat.le_refl _) _, by simp⟩
theorem heap_setO {w : World} {g : Nat} {cs : Array Value} {t : TypeId} {fr : Nat × Nat} (h : w.heap[g]? = some (.cells cs t fr)) (o : Nat) (v : Value) : (w.setCell ⟨g, o, none⟩ v).heap[g]? = some (.cells (cs.setIfInBounds o v) t fr) := by
  unfold World.setCell
  simp [Array.getElem?_modify, h]
theorem heap_setX {w : World} {g h : Nat} (hne : h ≠ g) (o : Nat) (v : Value) : (w.setCell ⟨g, o, none⟩ v).heap[h]? = w.heap[h]? := by
  unfold World.setCell
  simp [Array.getElem?_modify, Ne.symm hne]
theorem size_setX {w : World} {g : Nat} (o : Nat) (v : Value) : (w.setCell ⟨g, o, none⟩ v).heap.size = w.heap.size := by
  unfold World.setCell
  simp
def zs8 : Array Value := Array.replicate 256 (.int .u8 0)
theorem zero8 (w : World) : (zeroValue 133).run Try.prog w = .ok (.agg zs8) w := by kernel_rfl
theorem infoTab : (Try.prog.info? 133).map (·.size) = some 256 := by kernel_rfl
theorem tabN_zero : tabN (fun _ => 0) = zs8 := by
  unfold tabN zs8
  apply Array.ext'; simp [List.map_const']
/-- The world of forms. -/
structure FW (w wr : World) (f : Nat → Nat) : Prop where
  z : wr.heap[w.heap.size]? = some (.cells zs8 133)
  t : wr.heap[w.heap.size + 1]? = some (.cells (tabN f) 133)
  sp : Ss 3 spCells wr (some ⟨w.heap.size + 2, 0, none⟩) 38 spansL
  b : Below w.heap.size w wr
theorem FW.below {w wr w' : World} {f : Nat → Nat} (h : FW w wr f) (hb : Below wr.heap.size wr w') : FW w w' f :=
  ⟨by rw [hb.block _ (Array.getElem?_eq_some_iff.1 h.z).1]; exact h.z, by rw [hb.block _ (Array.getElem?_eq_some_iff.1 h.t).1]; exact h.t, h.sp.below hb, h.b.trans (hb.mono h.b.size)⟩
theorem FW.set {w wr : World} {f : Nat → Nat} (h : FW w wr f) (j x : Nat) : FW w (wr.setCell ⟨w.heap.size + 1, j, none⟩ (.int .u8 (x : Nat))) (updF f j x) := by
  refine ⟨by rw [heap_setX (by omega)]; exact h.z, by rw [← tabN_set]; exact heap_setO h.t j _, ⟨h.sp.1, fun hn => ?_⟩, h.b.setCell (by show w.heap.size ≤ w.heap.size + 1; omega) _⟩
  obtain ⟨b, off, ha, hlt, hc⟩ := h.sp.2 hn
  refine ⟨b, off, ha, by rw [size_setX]; exact hlt, fun i hi k hk => ?_⟩
  rw [← hc i hi k hk]
  simp only [Option.some.injEq, Addr.mk.injEq, and_true] at ha
  unfold World.cell?
  rw [heap_setX (by show b ≠ _; omega)]
theorem FW.cell {w wr : World} {f : Nat → Nat} (h : FW w wr f) (j : Nat) (hj : j < 256) : wr.cell? ⟨w.heap.size + 1, j, none⟩ = some (.int .u8 (f j : Nat)) ∧ wr.frozen? ⟨w.heap.size + 1, j, none⟩ = false := by
  refine ⟨by rw [cell_of_row wr _ j _ _ _ h.t]; exact tabN_at f j hj, ?_⟩
  unfold World.frozen?
  rw [h.t]
  simp
/-- Three cells alone in a block. -/
structure SBox (w : World) (g : Nat) (x y z : Nat) : Prop where
  c0 : w.cell? ⟨g, 0, none⟩ = some (.int .u8 (x : Nat))
  c1 : w.cell? ⟨g, 1, none⟩ = some (.int .u8 (y : Nat))
  c2 : w.cell? ⟨g, 2, none⟩ = some (.int .i64 (z : Nat))
theorem SBox.new (w : World) (x y z : Nat) (t : TypeId) : SBox (w.alloc (.cells #[.int .u8 (x : Nat), .int .u8 (y : Nat), .int .i64 (z : Nat)] t)) w.heap.size x y z :=
  ⟨by rw [cell_of_row _ _ 0 _ _ _ (heap_alloc_last w _)]; rfl, by rw [cell_of_row _ _ 1 _ _ _ (heap_alloc_last w _)]; rfl, by rw [cell_of_row _ _ 2 _ _ _ (heap_alloc_last w _)]; rfl⟩
theorem SBox.set {w : World} {g h : Nat} {x y z : Nat} (k : SBox w g x y z) (hne : g ≠ h) (o : Nat) (v : Value) : SBox (w.setCell ⟨h, o, none⟩ v) g x y z := by
  have key : ∀ i, (w.setCell ⟨h, o, none⟩ v).cell? ⟨g, i, none⟩ = w.cell? ⟨g, i, none⟩ := fun i => by unfold World.cell?; rw [heap_setX hne]
  exact ⟨by rw [key]; exact k.c0, by rw [key]; exact k.c1, by rw [key]; exact k.c2⟩
def FormsRet (w : World) (e : Ending) (w' : World) : Prop := e = .returned (.agg (tabN formN)) ∧ Below w.heap.size w w'
set_option maxRecDepth 100000 in
set_option maxHeartbeats 4000000 in
theorem forms_any (w : World) : Calls Try.prog 78 #[] w (FormsRet w) := by
  have hz := zero8
  go_enter Try.func78, Try.ntmps78
  go_wp2_with fail
  clear hz
  refine (spans_any _).mono ?_
  rintro e w1 ⟨rfl, hsp, hb1, hz1⟩
  have hsz : ((w.alloc (.cells zs8 133)).alloc (.cells zs8 133)).heap.size = w.heap.size + 2 := by simp
  rw [hsz] at hsp
  have HF := Lib.hid (show FW w w1 (formK 0) from ⟨by
      rw [hb1.block _ (by simp; omega), Below.heap_alloc _ _ _ (by simp)]; exact heap_alloc_last w _, by
      rw [hb1.block _ (by simp)]
      have := heap_alloc_last (w.alloc (.cells zs8 133)) (.cells zs8 133)
      rw [show (w.alloc (.cells zs8 133)).heap.size = w.heap.size + 1 by simp] at this
      rw [show formK 0 = (fun _ => 0) from rfl, tabN_zero]; exact this, hsp, (((Below.refl _ _).alloc (Nat.le_refl _) _).alloc (by simp) _).trans (hb1.mono (by simp; omega))⟩)
  clear hsp hb1 hz1 hsz
  go_wp2_with fail
  go_loopg [7] 38 (fun gn i wr => ∃ k : Nat, k ≤ 38 ∧ gn = 38 - k ∧ i = .int .i64 k ∧ Hid (FW w wr (formK k)))
  case atStart => exact ⟨0, by omega, rfl, by go_num, HF⟩
  case round =>
    obtain ⟨k, hk, rfl, rfl, HF⟩ := hrel
    by_cases hlt : k < 38
    · obtain ⟨b, off, ha, _, hc⟩ := HF.out.sp.2 (by decide)
      simp only [Option.some.injEq, Addr.mk.injEq, and_true] at ha
      obtain ⟨rfl, rfl⟩ := ha
      have hkl : k < spansL.length := hlt
      have q0 := hc k hkl 0 (by decide)
      have q1 := hc k hkl 1 (by decide)
      have q2 := hc k hkl 2 (by decide)
      have hok := spansL_ok spansL[k] (List.getElem_mem hkl)
      have HN := Lib.hid (formK_succ k hkl)
      clear hc
      generalize hs : spansL[k] = s at *
      obtain ⟨x, y, z⟩ := s
      simp only at hok
      have r0 : wr.cell? ⟨w.heap.size + 1 + 1, k * 3, none⟩ = some (.int .u8 (x : Nat)) := by rw [Nat.zero_add, Nat.add_zero] at q0; exact q0
      have r1 : wr.cell? ⟨w.heap.size + 1 + 1, k * 3 + 1, none⟩ = some (.int .u8 (y : Nat)) := by rw [Nat.zero_add] at q1; exact q1
      have r2 : wr.cell? ⟨w.heap.size + 1 + 1, k * 3 + 2, none⟩ = some (.int .i64 (z : Nat)) := by rw [Nat.zero_add] at q2; exact q2
      clear q0 q1 q2
      clear hs
      have k1 : (k : Int) < 38 := by omega
      go_upto_region 5 with fail
      have HS := Lib.hid (SBox.new wr x y z 138)
      have HFa := Lib.hid (HF.out.below ((Below.refl _ _).alloc (Nat.le_refl _) (.cells #[.int .u8 (x : Nat), .int .u8 (y : Nat), .int .i64 (z : Nat)] 138)))
      have hg : w.heap.size + 1 < wr.heap.size := by have := (Array.getElem?_eq_some_iff.1 HF.out.t).1; omega
      clear r0 r1 r2
      generalize hW : wr.alloc (.cells #[.int .u8 (x : Nat), .int .u8 (y : Nat), .int .i64 (z : Nat)] 138) = W at *
      clear hW
      obtain ⟨p0, p1, p2⟩ := HS.out
      go_wp2_with fail
      clear p0 p1 p2
      generalize wr.heap.size = g at *
      go_loopg [4] (y + 1 - x) (fun gn i wx => ∃ j : Nat, x ≤ j ∧ j ≤ y + 1 ∧ gn = y + 1 - j ∧ i = .int .i64 j ∧ Hid (FW w wx (partF (formK k) x j z)) ∧ Hid (SBox wx g x y z))
      case atStart => exact ⟨x, by omega, by omega, rfl, by go_num, Lib.hid (by rw [partF_start]; exact HFa.out), HS⟩
      case round =>
        obtain ⟨j, hj1, hj2, rfl, rfl, HW, HX⟩ := hrel
        obtain ⟨p0, p1, p2⟩ := HX.out
        by_cases hjt : j < y + 1
        · have e1 : decide ((j : Int) ≤ y) = true := by simp; omega
          obtain ⟨c0, f0⟩ := HW.out.cell j (by omega)
          have j1 : (j : Int) < 256 := by omega
          have z1 : (z : Int) < 256 := by omega
          go_wp2_with fail
          go_roundg (y + 1 - (j + 1))
          case measure => omega
          case rel => exact ⟨j + 1, by omega, by omega, rfl, by go_num, Lib.hid (by rw [← partF_next _ _ _ _ hj1]; exact HW.out.set j z), Lib.hid (HX.out.set (by omega) j _)⟩
        · have e1 : decide ((j : Int) ≤ y) = false := by simp; omega
          obtain rfl : j = y + 1 := by omega
          go_wp2_with fail
          go_roundg (38 - (k + 1))
          case measure => omega
          case rel => exact ⟨k + 1, by omega, rfl, by go_num, Lib.hid (by rw [HN.out, ← partF_end]; exact HW.out)⟩
    · obtain rfl : k = 38 := by omega
      have H := Lib.hid HF.out.t
      have H0 := Lib.hid HF.out.z
      go_wp2_with (first
        | (refine wpList_load_row rfl _ _ rfl _ rfl _ _ _ _ H.out Try.underlying133 rfl (by rw [tabN_size]; exact infoTab) ?_)
        | (refine wpList_store_row rfl _ _ _ rfl _ _ rfl rfl _ _ H0.out (by rw [tabN_size]; exact infoTab) (by simp [tabN_size, zs8]) (tabN_one _) ?_))
      refine bodyPost_ret (v := .agg (tabN formN)) (results_cell_row rfl _ _ w.heap.size _ _ _ _ rfl (setRow_heap _ _ _ _ _ _ H0.out) Try.underlying133 rfl (by rw [tabN_size]; exact infoTab)) rfl ⟨rfl, below_setRow HF.out.b (Nat.le_refl _) _⟩
end Go.Proofs.Ytbcldlbmbdfejaa
/- ops: Form, Len and size, the program's and the reference's. No condition. -/
namespace Go.Proofs.Ytbcldlbmbdfejaa
open Go.ChangeShapes Go.WideShapes Go.ChangeAt Go.RowKit
theorem run_index_arr {t e : TypeId} {len : Nat} (ht : Try.prog.underlying t = some (.array len e)) (hs : ∀ w, (sizeOf e).run Try.prog w = .ok 1 w) (hp : ∀ w (cs : Array Value) (i : Nat) (v : Value), cs[i]? = some v → (part e cs i).run Try.prog w = .ok v w) {cs : Array Value} {k : Nat} (hk : k < len) {v : Value} (hx : cs[k]? = some v) (kd : IntKind) (w : World) :
    (Instr.index t (.agg cs) (.int kd k)).run Try.prog w = .ok v w := by
  have h2 : (0 : Int) ≤ (k : Int) ∧ (k : Int) < (len : Int) := ⟨by omega, by omega⟩
  simp [Instr.index, asIntOf, run_underlying ht, hk, hs, hp _ _ _ _ hx]
theorem size_u8 (w : World) : (sizeOf 5).run Try.prog w = .ok 1 w := by kernel_rfl
theorem part_plain {e : TypeId} {d : TypeDesc} (h1 : Try.prog.underlying e = some d) (h2 : (match d with | .struct _ | .array _ _ => false | _ => true) = true) (w : World) (cs : Array Value) (i : Nat) (v : Value) (h3 : cs[i]? = some v) : (part e cs i).run Try.prog w = .ok v w := by
  cases d <;> simp [part, isAgg, run_underlying h1, h3] at h2 ⊢
theorem idx_tab (w : World) (f : Nat → Nat) (k : Nat) (h : k < 256) (kd : IntKind) : (Instr.index 133 (.agg (tabN f)) (.int kd k)).run Try.prog w = .ok (.int .u8 (f k : Nat)) w :=
  run_index_arr Try.underlying133 size_u8 (part_plain Try.underlying5 rfl) h (tabN_at f k h) kd w
def QuietRet (v : Value) (w : World) (e : Ending) (w' : World) : Prop := e = .returned v ∧ Below w.heap.size w w'
set_option maxRecDepth 100000 in
set_option maxHeartbeats 4000000 in
theorem Form_any (w : World) (k : Nat) (hk : k < 256) : Calls Try.prog 72 #[.int .u8 (k : Nat)] w (QuietRet (.int .i64 (formN k : Nat)) w) := by
  have h9 := formN_le k
  go_enter Try.func72, Try.ntmps72
  go_wp2_with fail
  refine (forms_any _).mono ?_
  rintro e w1 ⟨rfl, hb1⟩
  have HB := Lib.hid hb1
  have hi := idx_tab w1 formN k hk .u8
  clear hb1
  generalize formN k = f at *
  go_wp2_with fail
  go_ret
  exact ⟨rfl, HB.out⟩
theorem sizeN_le (f : Nat) : sizeN f ≤ 3 := by
  unfold sizeN
  match f with
  | 0 | 1 | 2 | 3 | 4 | 5 | 6 | 7 | 8 | 9 => decide
  | n + 10 => simp
theorem formN_leaf {k : Nat} {m : Int} {c : Int} (h : ((k : Int) == m) = true) (hm : (formN m.toNat : Int) = c) : c = (formN k : Int) := by
  have : (k : Int) = m := by simpa using h
  subst this
  simpa using hm.symm
def exclB (k : Int) : Bool := [21, 22, 25, 54, 55, 58, 16, 17, 18, 20, 178, 179, 180, 181, 182, 184, 187, 189, 192, 193, 153, 154, 155, 156, 157, 158, 159, 160, 161, 162, 163, 164, 165, 166, 167, 198, 199, 132, 188, 0, 1, 9, 10, 46, 50, 51, 79, 83, 84, 87, 89, 95, 96, 97, 100, 101, 104, 105, 108, 109, 112, 113, 116, 117, 120, 121, 122, 123, 124, 125, 126, 127, 128, 129, 130, 131, 133, 136, 145, 148, 172, 173, 176, 177, 190, 191].all fun m : Int => (k == m) == false
set_option maxRecDepth 100000 in
theorem formN_zero' : ∀ k : Fin 256, 8 < k.val → exclB (k.val : Int) = true → formN k.val = 0 := by decide
theorem formN_zero {k : Nat} (hk : k < 256) (h8 : 8 < k) (h : exclB k = true) : (0 : Int) = (formN k : Int) := by
  have := formN_zero' ⟨k, hk⟩ h8 h
  simp only at this
  rw [this]; rfl
theorem formN_one' : ∀ k : Fin 9, formN k.val = 1 := by decide
theorem formN_one {k : Nat} (h8 : k ≤ 8) : (1 : Int) = (formN k : Int) := by
  have := formN_one' ⟨k, by omega⟩
  simp only at this
  rw [this]; rfl
set_option maxRecDepth 100000 in
set_option maxHeartbeats 40000000 in
theorem refForm_any (w : World) (k : Nat) (hk : k < 256) : Calls Try.prog 77 #[.int .u8 (k : Nat)] w fun e w' => e = .returned (.int .i64 (formN k : Nat)) ∧ w = w' := by
  obtain ⟨f, hf⟩ : ∃ f, f = formN k := ⟨_, rfl⟩
  rw [← hf]
  have HF := Lib.hid hf
  clear hf
  go_enter Try.func77, Try.ntmps77
  go_wp2_with fail
  all_goals first | (go_ret; exact ⟨ret_int (by rw [HF.out]; exact formN_leaf (by assumption) (by decide)), rfl⟩) | skip
  · go_ret
    exact ⟨ret_int (by rw [HF.out]; exact formN_one (by omega)), rfl⟩
  · go_ret
    exact ⟨ret_int (by rw [HF.out]; exact formN_zero hk (by omega) (by simp only [exclB, List.all_cons, List.all_nil, *]; rfl)), rfl⟩
  · exfalso
    have h0 : ((k : Int) == 0) = false := by assumption
    have h1 : ((k : Int) == 1) = false := by assumption
    simp at h0 h1
    omega
end Go.Proofs.Ytbcldlbmbdfejaa
/- num: Sign, the program's and the reference's. No condition. -/
namespace Go.Proofs.Ytbcldlbmbdfejaa
open Go.ChangeShapes Go.WideShapes Go.ChangeAt Go.RowKit
def U64 (n : Int) : Prop := 0 ≤ n ∧ n < 18446744073709551616
/-- A number with its sign, of so many bytes. -/
def signB (v n : Int) : Int := if n < 1 ∨ 8 < n then 0 else (v + 2 ^ (8 * n.toNat - 1)) % 2 ^ (8 * n.toNat) - 2 ^ (8 * n.toNat - 1)
theorem signB_odd (v n : Int) (h : n < 1 ∨ 8 < n) : signB v n = 0 := by unfold signB; rw [if_pos h]
theorem signB_4 (v : Int) : signB v 4 = wrap32 v := by unfold wrap32; rfl
theorem signB_8 (v : Int) : signB v 8 = wrap64 v := by unfold wrap64; rfl

set_option maxRecDepth 100000 in
set_option maxHeartbeats 2000000 in
theorem refSign_any (w : World) (v n : Int) (hv : U64 v) (hn : IntR n) : Calls Try.prog 52 #[.int .u64 v, .int .i64 n] w fun e w' => e = .returned (.int .i64 (signB v n)) ∧ w = w' := by
  obtain ⟨v1, v2⟩ := hv
  by_cases c1 : n < 1
  · rw [signB_odd v n (.inl c1)]
    have e1 := decide_eq_true c1
    go_enter Try.func52, Try.ntmps52
    go_wp2
    go_ret
    exact ⟨rfl, rfl⟩
  by_cases c2 : 8 < n
  · rw [signB_odd v n (.inr c2)]
    have e1 := decide_eq_false c1
    have e2 := decide_eq_true c2
    go_enter Try.func52, Try.ntmps52
    go_wp2
    go_ret
    exact ⟨rfl, rfl⟩
  have hc : n = 8 ∨ n = 1 ∨ n = 2 ∨ n = 3 ∨ n = 4 ∨ n = 5 ∨ n = 6 ∨ n = 7 := by omega
  clear c1 c2 hn
  rcases hc with rfl | hc
  · rw [signB_8]
    go_enter Try.func52, Try.ntmps52
    go_wp2
    go_ret
    exact ⟨rfl, rfl⟩
  have hmod : ∀ p : Int, v.tmod p = v % p := fun p => Int.tmod_eq_emod_of_nonneg v1
  rcases hc with rfl | rfl | rfl | rfl | rfl | rfl | rfl
  · rw [show signB v 1 = (v + 128) % 256 - 128 from rfl]
    have hm := hmod 256
    clear hmod
    by_cases hh : v % 256 < 128
    · go_enter Try.func52, Try.ntmps52
      go_wp2
      go_ret
      exact ⟨ret_int (by omega), rfl⟩
    · go_enter Try.func52, Try.ntmps52
      go_wp2
      go_ret
      exact ⟨ret_int (by omega), rfl⟩
  · rw [show signB v 2 = (v + 32768) % 65536 - 32768 from rfl]
    have hm := hmod 65536
    clear hmod
    by_cases hh : v % 65536 < 32768
    · go_enter Try.func52, Try.ntmps52
      go_wp2
      go_ret
      exact ⟨ret_int (by omega), rfl⟩
    · go_enter Try.func52, Try.ntmps52
      go_wp2
      go_ret
      exact ⟨ret_int (by omega), rfl⟩
  · rw [show signB v 3 = (v + 8388608) % 16777216 - 8388608 from rfl]
    have hm := hmod 16777216
    clear hmod
    by_cases hh : v % 16777216 < 8388608
    · go_enter Try.func52, Try.ntmps52
      go_wp2
      go_ret
      exact ⟨ret_int (by omega), rfl⟩
    · go_enter Try.func52, Try.ntmps52
      go_wp2
      go_ret
      exact ⟨ret_int (by omega), rfl⟩
  · rw [show signB v 4 = (v + 2147483648) % 4294967296 - 2147483648 from rfl]
    have hm := hmod 4294967296
    clear hmod
    by_cases hh : v % 4294967296 < 2147483648
    · go_enter Try.func52, Try.ntmps52
      go_wp2
      go_ret
      exact ⟨ret_int (by omega), rfl⟩
    · go_enter Try.func52, Try.ntmps52
      go_wp2
      go_ret
      exact ⟨ret_int (by omega), rfl⟩
  · rw [show signB v 5 = (v + 549755813888) % 1099511627776 - 549755813888 from rfl]
    have hm := hmod 1099511627776
    clear hmod
    by_cases hh : v % 1099511627776 < 549755813888
    · go_enter Try.func52, Try.ntmps52
      go_wp2
      go_ret
      exact ⟨ret_int (by omega), rfl⟩
    · go_enter Try.func52, Try.ntmps52
      go_wp2
      go_ret
      exact ⟨ret_int (by omega), rfl⟩
  · rw [show signB v 6 = (v + 140737488355328) % 281474976710656 - 140737488355328 from rfl]
    have hm := hmod 281474976710656
    clear hmod
    by_cases hh : v % 281474976710656 < 140737488355328
    · go_enter Try.func52, Try.ntmps52
      go_wp2
      go_ret
      exact ⟨ret_int (by omega), rfl⟩
    · go_enter Try.func52, Try.ntmps52
      go_wp2
      go_ret
      exact ⟨ret_int (by omega), rfl⟩
  · rw [show signB v 7 = (v + 36028797018963968) % 72057594037927936 - 36028797018963968 from rfl]
    have hm := hmod 72057594037927936
    clear hmod
    by_cases hh : v % 72057594037927936 < 36028797018963968
    · go_enter Try.func52, Try.ntmps52
      go_wp2
      go_ret
      exact ⟨ret_int (by omega), rfl⟩
    · go_enter Try.func52, Try.ntmps52
      go_wp2
      go_ret
      exact ⟨ret_int (by omega), rfl⟩

set_option maxRecDepth 100000 in
set_option maxHeartbeats 2000000 in
theorem Sign_any (w : World) (v n : Int) (hv : U64 v) (hn : IntR n) : Calls Try.prog 49 #[.int .u64 v, .int .i64 n] w fun e w' => e = .returned (.int .i64 (signB v n)) ∧ w = w' := by
  obtain ⟨v1, v2⟩ := hv
  by_cases c1 : n < 1 ∨ 8 < n
  · rw [signB_odd v n c1]
    have hd : decide (1 ≤ n ∧ n ≤ 8) = false := decide_eq_false (by omega)
    clear c1
    go_enter Try.func49, Try.ntmps49
    go_wp2_with fail
    refine (right_any _ n).mono ?_
    rw [hd]
    rintro e w' ⟨rfl, rfl⟩
    go_wp2
    go_ret
    exact ⟨rfl, rfl⟩
  have hc : n = 1 ∨ n = 2 ∨ n = 3 ∨ n = 4 ∨ n = 5 ∨ n = 6 ∨ n = 7 ∨ n = 8 := by omega
  clear c1 hn
  rcases hc with rfl | rfl | rfl | rfl | rfl | rfl | rfl | rfl
  · rw [show signB v 1 = (v + 128) % 256 - 128 from rfl]
    go_enter Try.func49, Try.ntmps49
    go_wp2_with fail
    refine (right_any _ 1).mono ?_
    rw [show decide ((1 : Int) ≤ 1 ∧ (1 : Int) ≤ 8) = true from rfl]
    rintro e w' ⟨rfl, rfl⟩
    go_wp2
    go_ret
    exact ⟨ret_int (by simp only [IntKind.wrap_u64, wrap64] <;> omega), rfl⟩
  · rw [show signB v 2 = (v + 32768) % 65536 - 32768 from rfl]
    go_enter Try.func49, Try.ntmps49
    go_wp2_with fail
    refine (right_any _ 2).mono ?_
    rw [show decide ((1 : Int) ≤ 2 ∧ (2 : Int) ≤ 8) = true from rfl]
    rintro e w' ⟨rfl, rfl⟩
    go_wp2
    go_ret
    exact ⟨ret_int (by simp only [IntKind.wrap_u64, wrap64] <;> omega), rfl⟩
  · rw [show signB v 3 = (v + 8388608) % 16777216 - 8388608 from rfl]
    go_enter Try.func49, Try.ntmps49
    go_wp2_with fail
    refine (right_any _ 3).mono ?_
    rw [show decide ((1 : Int) ≤ 3 ∧ (3 : Int) ≤ 8) = true from rfl]
    rintro e w' ⟨rfl, rfl⟩
    go_wp2
    go_ret
    exact ⟨ret_int (by simp only [IntKind.wrap_u64, wrap64] <;> omega), rfl⟩
  · rw [show signB v 4 = (v + 2147483648) % 4294967296 - 2147483648 from rfl]
    go_enter Try.func49, Try.ntmps49
    go_wp2_with fail
    refine (right_any _ 4).mono ?_
    rw [show decide ((1 : Int) ≤ 4 ∧ (4 : Int) ≤ 8) = true from rfl]
    rintro e w' ⟨rfl, rfl⟩
    go_wp2
    go_ret
    exact ⟨ret_int (by simp only [IntKind.wrap_u64, wrap64] <;> omega), rfl⟩
  · rw [show signB v 5 = (v + 549755813888) % 1099511627776 - 549755813888 from rfl]
    go_enter Try.func49, Try.ntmps49
    go_wp2_with fail
    refine (right_any _ 5).mono ?_
    rw [show decide ((1 : Int) ≤ 5 ∧ (5 : Int) ≤ 8) = true from rfl]
    rintro e w' ⟨rfl, rfl⟩
    go_wp2
    go_ret
    exact ⟨ret_int (by simp only [IntKind.wrap_u64, wrap64] <;> omega), rfl⟩
  · rw [show signB v 6 = (v + 140737488355328) % 281474976710656 - 140737488355328 from rfl]
    go_enter Try.func49, Try.ntmps49
    go_wp2_with fail
    refine (right_any _ 6).mono ?_
    rw [show decide ((1 : Int) ≤ 6 ∧ (6 : Int) ≤ 8) = true from rfl]
    rintro e w' ⟨rfl, rfl⟩
    go_wp2
    go_ret
    exact ⟨ret_int (by simp only [IntKind.wrap_u64, wrap64] <;> omega), rfl⟩
  · rw [show signB v 7 = (v + 36028797018963968) % 72057594037927936 - 36028797018963968 from rfl]
    go_enter Try.func49, Try.ntmps49
    go_wp2_with fail
    refine (right_any _ 7).mono ?_
    rw [show decide ((1 : Int) ≤ 7 ∧ (7 : Int) ≤ 8) = true from rfl]
    rintro e w' ⟨rfl, rfl⟩
    go_wp2
    go_ret
    exact ⟨ret_int (by simp only [IntKind.wrap_u64, wrap64] <;> omega), rfl⟩
  · rw [show signB v 8 = (v + 9223372036854775808) % 18446744073709551616 - 9223372036854775808 from rfl]
    go_enter Try.func49, Try.ntmps49
    go_wp2_with fail
    refine (right_any _ 8).mono ?_
    rw [show decide ((1 : Int) ≤ 8 ∧ (8 : Int) ≤ 8) = true from rfl]
    rintro e w' ⟨rfl, rfl⟩
    go_wp2
    go_ret
    exact ⟨ret_int (by simp only [IntKind.wrap_u64, wrap64] <;> omega), rfl⟩
end Go.Proofs.Ytbcldlbmbdfejaa
