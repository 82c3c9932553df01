/- num: the walks of Get and Put, and the reference's. No condition. -/
import Derived.Test.YtnfhiakdbakpgaaQ01KlassCuts
import Derived.Test.YtnfhiakdbakpgaaQ00KlassCuts
import Derived.Laws.StructEq
namespace Go.Proofs.Ytnfhiakdbakpgaa
open Go.ChangeShapes Go.WideShapes Go.ChangeAt Go.RowKit
theorem oneN : OneE 29 5 (.int .u8 0) 1 := ⟨Try.underlying29, by kernel_rfl, rfl⟩

def IntR (n : Int) : Prop := -9223372036854775808 ≤ n ∧ n ≤ 9223372036854775807

set_option maxRecDepth 100000 in
set_option maxHeartbeats 1000000 in
theorem right_any (w : World) (n : Int) : Calls Try.prog 75 #[.int .i64 n] w fun e w' => e = .returned (.bool (decide (1 ≤ n ∧ n ≤ 8))) ∧ w = w' := by
  by_cases h1 : 1 ≤ n
  · by_cases h2 : n ≤ 8
    · rw [decide_eq_true ⟨h1, h2⟩]
      go_enter Try.func75, Try.ntmps75
      go_wp2
      go_ret
      exact ⟨rfl, rfl⟩
    · rw [decide_eq_false (by omega)]
      go_enter Try.func75, Try.ntmps75
      go_wp2
      go_ret
      exact ⟨rfl, rfl⟩
  · rw [decide_eq_false (by omega)]
    go_enter Try.func75, Try.ntmps75
    go_wp2
    go_ret
    exact ⟨rfl, rfl⟩

set_option maxRecDepth 100000 in
set_option maxHeartbeats 2000000 in
theorem Get_any (w : World) (a : Option Addr) (len cap : Nat) (bs : List UInt8) (i n : Int) (hs : Sl encB w a len bs) (hl : len ≤ 1048576) (hcap : len ≤ cap) (hi : IntR i) (hn : IntR n) :
    Calls Try.prog 82 #[.slice a len cap, .int .i64 i, .int .i64 n] w fun e w' => e = .returned (.tuple #[.int .u64 (getR bs i n).1, .int .i64 (getR bs i n).2]) ∧ w = w' := by
  have hbl := hs.1
  have HS := Lib.hid hs
  obtain ⟨i1, i2⟩ := hi
  obtain ⟨n1, n2⟩ := hn
  clear hs
  by_cases c1 : n < 1 ∨ 8 < n
  · have hR : getR bs i n = (0, 1) := by unfold getR; rw [if_pos c1]
    rw [hR]
    have hd : decide (1 ≤ n ∧ n ≤ 8) = false := decide_eq_false (by omega)
    clear hR
    go_enter Try.func82, Try.ntmps82
    go_wp2_with fail
    refine (right_any _ n).mono ?_
    rw [hd]
    rintro e w' ⟨rfl, rfl⟩
    go_wp2
    go_ret2
    exact ⟨rfl, rfl⟩
  have hd : decide (1 ≤ n ∧ n ≤ 8) = true := decide_eq_true (by omega)
  by_cases c2 : i < 0 ∨ (len : Int) < i ∨ (len : Int) - i < n
  · have hR : getR bs i n = (0, 6) := by unfold getR; rw [if_neg c1, hbl, if_pos c2]
    rw [hR]
    clear hR
    by_cases d1 : i < 0
    · have e1 := decide_eq_true d1
      go_enter Try.func82, Try.ntmps82
      go_wp2_with fail
      refine (right_any _ n).mono ?_
      rw [hd]
      rintro e w' ⟨rfl, rfl⟩
      go_wp2
      go_ret2
      exact ⟨rfl, rfl⟩
    have e1 := decide_eq_false d1
    by_cases d2 : (len : Int) < i
    · have e2 := decide_eq_true d2
      go_enter Try.func82, Try.ntmps82
      go_wp2_with fail
      refine (right_any _ n).mono ?_
      rw [hd]
      rintro e w' ⟨rfl, rfl⟩
      go_wp2
      go_ret2
      exact ⟨rfl, rfl⟩
    have e2 := decide_eq_false d2
    have e3 := decide_eq_true (show (len : Int) - i < n by omega)
    go_enter Try.func82, Try.ntmps82
    go_wp2_with fail
    refine (right_any _ n).mono ?_
    rw [hd]
    rintro e w' ⟨rfl, rfl⟩
    go_wp2
    go_ret2
    exact ⟨rfl, rfl⟩
  · have hR : getR bs i n = (((getN ((bs.drop i.toNat).take n.toNat) : Nat) : Int), (0 : Int)) := by unfold getR; rw [if_neg c1, hbl, if_neg c2]
    rw [hR]
    clear hR
    obtain ⟨j, rfl⟩ : ∃ j : Nat, i = j := ⟨i.toNat, by omega⟩
    obtain ⟨m, rfl⟩ : ∃ m : Nat, n = m := ⟨n.toNat, by omega⟩
    have j1 : j + m ≤ len := by omega
    have m1 : 1 ≤ m := by omega
    have m2 : m ≤ 8 := by omega
    clear i1 i2 n1 n2 c1 c2
    simp only [Int.toNat_natCast]
    obtain ⟨b, off, rfl, hbw, hc⟩ := HS.out.2 (by omega)
    have HC := Lib.hid hc
    obtain ⟨cs, hcs⟩ : ∃ cs, cs = (bs.drop j).take m := ⟨_, rfl⟩
    rw [← hcs]
    have HCS := Lib.hid hcs
    have hcl : cs.length = m := by rw [hcs]; simp; omega
    have HCL := Lib.hid hcl
    clear hcs hc hcl
    have e1 := decide_eq_false (show ¬ (j : Int) < 0 by omega)
    have e2 := decide_eq_false (show ¬ (len : Int) < (j : Int) by omega)
    have e3 := decide_eq_false (show ¬ (len : Int) - (j : Int) < (m : Int) by omega)
    have g1 : (0 : Int) ≤ (j : Int) := by omega
    have g2 : (j : Int) ≤ (len : Int) := by omega
    have g3 : (0 : Int) ≤ (m : Int) := by omega
    have g4 : (m : Int) ≤ (cap : Int) - (j : Int) := by omega
    have g5 : (len : Int) ≤ (cap : Int) := by omega
    go_enter Try.func82, Try.ntmps82
    go_wp2_with fail
    refine (right_any _ m).mono ?_
    rw [hd]
    rintro e w' ⟨rfl, rfl⟩
    go_wp2_with fail
    go_loopw [8, 38] (fun v i wr => ∃ k x : Nat, k ≤ m ∧ i = .int .i64 k ∧ v = .int .u64 x ∧ Hid (x = getN (cs.take k)) ∧ wr = w) (fun _ i _ => m - (intOf i).toNat)
    case atStart => exact ⟨0, 0, Nat.zero_le _, rfl, rfl, rfl, rfl⟩
    case round =>
      obtain ⟨k, x, hk, rfl, rfl, HX, rfl⟩ := hrel
      by_cases hlt : k < m
      · have hck : wr.cell? ⟨b, off + j + k, none⟩ = some (.int .u8 ((cs[k]'(by rw [HCL.out]; exact hlt)).toNat : Int)) := by
          have h1 := HC.out (j + k) (by omega)
          rw [Nat.add_assoc, h1]
          simp only [HCS.out, List.getElem_take, List.getElem_drop]
          rfl
        obtain ⟨c, hcc⟩ : ∃ c, c = (cs[k]'(by rw [HCL.out]; exact hlt)).toNat := ⟨_, rfl⟩
        rw [← hcc] at hck
        have hcl : c < 256 := by rw [hcc]; exact (cs[k]'(by rw [HCL.out]; exact hlt)).toNat_lt
        have HCC := Lib.hid hcc
        clear hcc
        have hx7 : x < 72057594037927936 := by rw [HX.out]; exact getN_take_lt _ _ (by omega)
        have hor := or64_join (x := x * 256) (y := c) (by omega) hcl (by omega)
        rw [show ((x * 256 : Nat) : Int) = (x : Int) * 256 by omega] at hor
        go_wp2
        go_roundw
        case rel => exact ⟨k + 1, x * 256 + c, by omega, by go_num, by go_num, by show _ = _; rw [getN_take cs k (by rw [HCL.out]; exact hlt), ← HX.out, ← HCC.out], trivial⟩
        case measure => simp [intOf]; omega
      · obtain rfl : k = m := by omega
        go_wp2
        go_ret2
        have h1 := HX.out
        rw [List.take_of_length_le (by rw [HCL.out]; omega)] at h1
        rw [h1]
        exact ⟨rfl, rfl⟩

set_option maxRecDepth 100000 in
set_option maxHeartbeats 2000000 in
theorem Put_any (w : World) (a : Option Addr) (len cap : Nat) (bs : List UInt8) (v n : Nat) (hs : Sl encB w a len bs) (hl : len ≤ 1048576) (hcap : len ≤ cap) (hv : v < 18446744073709551616) (n1 : 1 ≤ n) (n2 : n ≤ 8) :
    Calls Try.prog 49 #[.slice a len cap, .int .u64 v, .int .i64 n] w (OwnRet encB 5 w.heap.size w (bs ++ putB v n)) := by
  have HS := Lib.hid hs
  clear hs
  have hd : decide (1 ≤ (n : Int) ∧ (n : Int) ≤ 8) = true := decide_eq_true (by omega)
  have g5 : (len : Int) ≤ (cap : Int) := by omega
  go_enter Try.func49, Try.ntmps49
  go_wp2_with fail
  refine (right_any _ n).mono ?_
  rw [hd]
  rintro e w' ⟨rfl, rfl⟩
  go_wp2_with fail
  go_loopw [0, 19] (fun s i wr => ∃ k : Nat, k ≤ n ∧ i = .int .i64 k ∧ (k = 0 ∧ s = .slice a len len ∨ 0 < k ∧ Hid (wr.ownsRow w.heap.size 5 1 s (len + k) ((bs ++ (putB v n).take k).map encB))) ∧ Hid (Below w.heap.size w wr)) (fun _ i _ => n - (intOf i).toNat)
  case atStart => exact ⟨0, Nat.zero_le _, rfl, .inl ⟨rfl, rfl⟩, Below.refl _ _⟩
  case round =>
    obtain ⟨k, hk, rfl, hor, HW⟩ := hrel
    by_cases hlt : k < n
    · rcases hor with ⟨rfl, rfl⟩ | ⟨hk0, HO⟩
      · go_wp2_with (at_builtin; refine wpList_app_full_lit (enc := encB) oneN rfl _ _ rfl w.heap.size a len len bs rfl (HS.out.below HW.out) _ 1 _ rfl rfl rfl (by omega) (Nat.le_refl _) (by omega) (by unfold maxLen; omega) HW.out.size ?_; intro v1 w1 hown1 hb1; rw [shr_byte] at hown1; have HO1 := Lib.hid hown1; have HB1 := Lib.hid (HW.out.trans hb1); clear hown1 hb1)
        go_roundw
        case rel => exact ⟨1, by omega, by go_num, .inr ⟨by omega, by rw [putB_take1 v n (by omega), List.map_append]; simp only [List.map_cons, List.map_nil, encB_byte]; exact HO1⟩, HB1⟩
        case measure => simp [intOf]; omega
      · go_wp2_with (at_builtin; refine wpList_app_lit oneN rfl _ _ rfl w.heap.size _ _ _ rfl HO.out _ 1 _ rfl rfl rfl (by omega) (by unfold maxLen; omega) HW.out.size ?_; intro v1 w1 hown1 hg1 hb1; rw [shr_byte] at hown1; have HO1 := Lib.hid hown1; have HB1 := Lib.hid (HW.out.trans hb1); clear hown1 hb1 hg1)
        go_roundw
        case rel => exact ⟨k + 1, by omega, by go_num, .inr ⟨by omega, by rw [putB_take v n k hlt, ← List.append_assoc, List.map_append (l₁ := bs ++ _)]; simp only [List.map_cons, List.map_nil, encB_byte]; exact HO1⟩, HB1⟩
        case measure => simp [intOf]; omega
    · obtain rfl : k = n := by omega
      rcases hor with ⟨rfl, rfl⟩ | ⟨hk0, HO⟩
      · omega
      go_wp2
      go_ret
      exact ⟨_, _, rfl, by have h := HO.out; rwa [List.take_of_length_le (by rw [putB_length]; omega)] at h, HW.out⟩

set_option maxRecDepth 100000 in
set_option maxHeartbeats 2000000 in
theorem Put_odd (w : World) (a : Option Addr) (len cap : Nat) (v n : Int) (hcap : len ≤ cap) (hn : n < 1 ∨ 8 < n) :
    Calls Try.prog 49 #[.slice a len cap, .int .u64 v, .int .i64 n] w fun e w' => e = .returned (.slice a len len) ∧ w = w' := by
  have hd : decide (1 ≤ n ∧ n ≤ 8) = false := decide_eq_false (by omega)
  have g5 : (len : Int) ≤ (cap : Int) := by omega
  go_enter Try.func49, Try.ntmps49
  go_wp2_with fail
  refine (right_any _ n).mono ?_
  rw [hd]
  rintro e w' ⟨rfl, rfl⟩
  go_wp2
  go_ret
  exact ⟨rfl, rfl⟩

set_option maxRecDepth 100000 in
set_option maxHeartbeats 2000000 in
theorem refPut_any (w : World) (a : Option Addr) (len cap : Nat) (bs : List UInt8) (v n : Nat) (hs : Sl encB w a len bs) (hl : len ≤ 1048576) (hv : v < 18446744073709551616) (n1 : 1 ≤ n) (n2 : n ≤ 8) :
    Calls Try.prog 42 #[.slice a len cap, .int .u64 v, .int .i64 n] w (OwnRet encB 5 w.heap.size w (bs ++ putB v n)) := by
  have HS := Lib.hid hs
  have HO0 := Lib.hid (own_empty w w.heap.size 5 (Nat.le_refl _))
  have HB0 := Lib.hid ((Below.refl w.heap.size w).alloc (Nat.le_refl _) (.cells #[] 5))
  clear hs
  have e1 := decide_eq_false (show ¬ (n : Int) < 1 by omega)
  have e2 := decide_eq_false (show ¬ 8 < (n : Int) by omega)
  go_enter Try.func42, Try.ntmps42
  go_wp2_with (at_builtin; refine wpList_app1 oneN rfl _ _ _ rfl w.heap.size _ _ _ rfl HO0.out _ _ _ rfl ((HS.out.below HB0.out).src encB_cell Try.underlying29 _) (by omega) (by unfold maxLen; omega) HB0.out.size ?_; intro v2 w2 hown2 hg2 hb2; have HO2 := Lib.hid hown2; have HB2 := Lib.hid (HB0.out.trans hb2); clear hown2 hg2 hb2)
  go_loopw [7, 8] (fun s i wr => ∃ k : Nat, k ≤ n ∧ i = .int .i64 ((n : Int) - 1 - k) ∧ Hid (wr.ownsRow w.heap.size 5 1 s (len + k) ((bs ++ (putB v n).take k).map encB)) ∧ Hid (Below w.heap.size w wr)) (fun _ i _ => (intOf i + 1).toNat)
  case atStart => exact ⟨0, Nat.zero_le _, by go_num, by have h := HO2.out; simp only [Nat.zero_add, List.map_nil, List.nil_append] at h; simp only [Nat.add_zero, List.take_zero, List.append_nil]; exact h, HB2⟩
  case round =>
    obtain ⟨k, hk, rfl, HO, HW⟩ := hrel
    by_cases hlt : k < n
    · go_wp2_with (at_builtin; refine wpList_app_lit oneN rfl _ _ rfl w.heap.size _ _ _ rfl HO.out _ 1 _ rfl rfl rfl (by omega) (by unfold maxLen; omega) HW.out.size ?_; intro v1 w1 hown1 hg1 hb1; rw [shr_byte, tmod_byte] at hown1; have HO1 := Lib.hid hown1; have HB1 := Lib.hid (HW.out.trans hb1); clear hown1 hb1 hg1)
      go_roundw
      case rel => exact ⟨k + 1, by omega, by go_num, by rw [putB_take v n k hlt, ← List.append_assoc, List.map_append (l₁ := bs ++ _)]; simp only [List.map_cons, List.map_nil, encB_byte]; exact HO1, HB1⟩
      case measure => simp [intOf]; omega
    · obtain rfl : k = n := by omega
      go_wp2
      go_ret
      exact ⟨_, _, rfl, by have h := HO.out; rwa [List.take_of_length_le (by rw [putB_length]; omega)] at h, HW.out⟩

set_option maxRecDepth 100000 in
set_option maxHeartbeats 2000000 in
theorem refPut_odd (w : World) (a : Option Addr) (len cap : Nat) (bs : List UInt8) (v n : Int) (hs : Sl encB w a len bs) (hl : len ≤ 1048576) (hn : n < 1 ∨ 8 < n) :
    Calls Try.prog 42 #[.slice a len cap, .int .u64 v, .int .i64 n] w (OwnRet encB 5 w.heap.size w bs) := by
  have HS := Lib.hid hs
  have HO0 := Lib.hid (own_empty w w.heap.size 5 (Nat.le_refl _))
  have HB0 := Lib.hid ((Below.refl w.heap.size w).alloc (Nat.le_refl _) (.cells #[] 5))
  clear hs
  by_cases d1 : n < 1
  · have e1 := decide_eq_true d1
    go_enter Try.func42, Try.ntmps42
    go_wp2_with (at_builtin; refine wpList_app1 oneN rfl _ _ _ rfl w.heap.size _ _ _ rfl HO0.out _ _ _ rfl ((HS.out.below HB0.out).src encB_cell Try.underlying29 _) (by omega) (by unfold maxLen; omega) HB0.out.size ?_; intro v2 w2 hown2 hg2 hb2; have HO2 := Lib.hid hown2; have HB2 := Lib.hid (HB0.out.trans hb2); clear hown2 hg2 hb2)
    go_ret
    exact ⟨_, _, rfl, HO2.out, HB2.out⟩
  · have e1 := decide_eq_false d1
    have e2 := decide_eq_true (show 8 < n by omega)
    go_enter Try.func42, Try.ntmps42
    go_wp2_with (at_builtin; refine wpList_app1 oneN rfl _ _ _ rfl w.heap.size _ _ _ rfl HO0.out _ _ _ rfl ((HS.out.below HB0.out).src encB_cell Try.underlying29 _) (by omega) (by unfold maxLen; omega) HB0.out.size ?_; intro v2 w2 hown2 hg2 hb2; have HO2 := Lib.hid hown2; have HB2 := Lib.hid (HB0.out.trans hb2); clear hown2 hg2 hb2)
    go_ret
    exact ⟨_, _, rfl, HO2.out, HB2.out⟩
end Go.Proofs.Ytnfhiakdbakpgaa
/- pool: is, Text, Class, Member and the reference's. No condition. -/
namespace Go.Proofs.Ytnfhiakdbakpgaa
open Go.ChangeShapes Go.WideShapes Go.ChangeAt Go.RowKit
/-- A slice of constants. -/
def Ks (w : World) (a : Option Addr) (n : Nat) (L : List KV) : Prop := Ss 5 KV.cells w a n L
/-- The cells of a constant. -/
structure KAt (w : World) (b o : Nat) (c : KV) : Prop where
  c0 : w.cell? ⟨b, o, none⟩ = some (.int .i64 c.tag)
  c1 : w.cell? ⟨b, o + 1, none⟩ = some (.int .i64 c.a)
  c2 : w.cell? ⟨b, o + 2, none⟩ = some (.int .i64 c.b)
  c3 : w.cell? ⟨b, o + 3, none⟩ = some (.int .i64 c.n)
  c4 : w.cell? ⟨b, o + 4, none⟩ = some (.string ⟨c.s.toArray⟩)
theorem Ks.below {w w' : World} {a : Option Addr} {n : Nat} {L : List KV} (h : Ks w a n L) (hb : Below w.heap.size w w') : Ks w' a n L := Ss.below h hb
theorem KAt.below {w w' : World} {b o : Nat} {c : KV} (h : KAt w b o c) (hb : Below w.heap.size w w') : KAt w' b o c :=
  ⟨cellS_below hb h.c0, cellS_below hb h.c1, cellS_below hb h.c2, cellS_below hb h.c3, cellS_below hb h.c4⟩
theorem Ks.at {w : World} {a : Option Addr} {n : Nat} {L : List KV} (h : Ks w a n L) (i : Nat) (hi : i < n) : ∃ b off, a = some ⟨b, off, none⟩ ∧ b < w.heap.size ∧ KAt w b (off + i * 5) (kAt L i) := by
  obtain ⟨b, off, ha, hlt, hc⟩ := h.2 (by omega)
  have hl : i < L.length := by rw [h.1]; exact hi
  have hk : kAt L i = L[i] := by unfold kAt; simp [List.getD, hl]
  refine ⟨b, off, ha, hlt, ?_⟩
  rw [hk]
  exact ⟨hc i hl 0 (by omega), hc i hl 1 (by omega), hc i hl 2 (by omega), hc i hl 3 (by omega), hc i hl 4 (by omega)⟩
theorem isT_low {L : List KV} {i t : Int} (h : i < 1) : isT L i t = false := by unfold isT; rw [decide_eq_false]; omega
theorem isT_high {L : List KV} {i t : Int} (h : (L.length : Int) ≤ i) : isT L i t = false := by unfold isT; rw [decide_eq_false]; omega
theorem isT_in {L : List KV} {i t : Int} (h0 : 1 ≤ i) (h1 : i < L.length) : isT L i t = decide ((kAt L i).tag = t) := by
  unfold isT
  by_cases h : (kAt L i).tag = t
  · rw [decide_eq_true h, decide_eq_true ⟨h0, h1, h⟩]
  · rw [decide_eq_false h, decide_eq_false fun x => h x.2.2]
theorem isT_true {L : List KV} {i t : Int} (h : isT L i t = true) : 1 ≤ i ∧ i < L.length ∧ (kAt L i).tag = t := of_decide_eq_true h
set_option maxRecDepth 100000 in
set_option maxHeartbeats 4000000 in
theorem is_any (w : World) (a : Option Addr) (n cap : Nat) (L : List KV) (i t : Int) (hs : Ks w a n L) (hn : n ≤ 65536) :
    Calls Try.prog 80 #[.slice a n cap, .int .i64 i, .int .i64 t] w fun e w' => e = .returned (.bool (isT L i t)) ∧ w = w' := by
  by_cases h1 : i < 1
  · rw [isT_low h1]
    have h0 : decide (0 < i) = false := by simp; omega
    clear hs
    go_enter Try.func80, Try.ntmps80
    go_wp2_with fail
    go_ret
    exact ⟨rfl, rfl⟩
  · by_cases h2 : (n : Int) ≤ i
    · rw [isT_high (by rw [hs.1]; exact h2)]
      have h0 : decide (0 < i) = true := by simp; omega
      have h3 : decide (i < (n : Int)) = false := by simp; omega
      clear hs
      go_enter Try.func80, Try.ntmps80
      go_wp2_with fail
      go_ret
      exact ⟨rfl, rfl⟩
    · obtain ⟨k, rfl⟩ : ∃ k : Nat, i = k := ⟨i.toNat, by omega⟩
      rw [isT_in (by omega) (by rw [hs.1]; omega)]
      obtain ⟨b, off, rfl, _, hk⟩ := hs.at k (by omega)
      have g0 := hk.c0
      have k0 : 0 < k := by omega
      have k1 : k < n := by omega
      obtain ⟨t0, ht0⟩ : ∃ t0, t0 = (kAt L k).tag := ⟨_, rfl⟩
      rw [← ht0] at g0 ⊢
      clear hk hs h1 h2 ht0
      by_cases ht : t0 = t
      · subst ht
        have e1 : (t0 == t0) = true := by simp
        go_enter Try.func80, Try.ntmps80
        go_wp2_with fail
        go_ret
        exact ⟨by simp, rfl⟩
      · have e1 : (t0 == t) = false := by simp [ht]
        rw [decide_eq_false ht]
        clear ht
        go_enter Try.func80, Try.ntmps80
        go_wp2_with fail
        go_ret
        exact ⟨rfl, rfl⟩
end Go.Proofs.Ytnfhiakdbakpgaa
/- pool: Text, Class and Member, the program's and the reference's (printed by gen/pool1.py). No condition. -/
namespace Go.Proofs.Ytnfhiakdbakpgaa
open Go.ChangeShapes Go.WideShapes Go.ChangeAt Go.RowKit
set_option maxRecDepth 100000 in
set_option maxHeartbeats 4000000 in
theorem refis_any (w : World) (a : Option Addr) (n cap : Nat) (L : List KV) (i t : Int) (hs : Ks w a n L) (hn : n ≤ 65536) :
    Calls Try.prog 77 #[.slice a n cap, .int .i64 i, .int .i64 t] w fun e w' => e = .returned (.bool (isT L i t)) ∧ w = w' := by
  by_cases h1 : i < 1
  · rw [isT_low h1]
    have h0 : decide (1 ≤ i) = false := by simp; omega
    clear hs
    go_enter Try.func77, Try.ntmps77
    go_wp2_with fail
    go_ret
    exact ⟨rfl, rfl⟩
  · by_cases h2 : (n : Int) ≤ i
    · rw [isT_high (by rw [hs.1]; exact h2)]
      have h0 : decide (1 ≤ i) = true := by simp; omega
      have h3 : decide (i < (n : Int)) = false := by simp; omega
      clear hs
      go_enter Try.func77, Try.ntmps77
      go_wp2_with fail
      go_ret
      exact ⟨rfl, rfl⟩
    · obtain ⟨k, rfl⟩ : ∃ k : Nat, i = k := ⟨i.toNat, by omega⟩
      rw [isT_in (by omega) (by rw [hs.1]; omega)]
      obtain ⟨b, off, rfl, _, hk⟩ := hs.at k (by omega)
      have g0 := hk.c0
      have k0 : (1 : Int) ≤ k := by omega
      have k1 : k < n := by omega
      obtain ⟨t0, ht0⟩ : ∃ t0, t0 = (kAt L k).tag := ⟨_, rfl⟩
      rw [← ht0] at g0 ⊢
      clear hk hs h1 h2 ht0
      by_cases ht : t0 = t
      · subst ht
        have e1 : (t0 == t0) = true := by simp
        go_enter Try.func77, Try.ntmps77
        go_wp2_with fail
        go_ret
        exact ⟨by simp, rfl⟩
      · have e1 : (t0 == t) = false := by simp [ht]
        rw [decide_eq_false ht]
        clear ht
        go_enter Try.func77, Try.ntmps77
        go_wp2_with fail
        go_ret
        exact ⟨rfl, rfl⟩
def TextRet (L : List KV) (i : Int) (w : World) (e : Ending) (w' : World) : Prop := e = .returned (.tuple #[.string ⟨(textAt L i).toArray⟩, .bool (isT L i 1)]) ∧ w = w'
def ClassRet (L : List KV) (i : Int) (w : World) (e : Ending) (w' : World) : Prop := e = .returned (.tuple #[.string ⟨(classAt L i).1.toArray⟩, .bool (classAt L i).2]) ∧ w = w'
def MemberRet (L : List KV) (i t : Int) (w : World) (e : Ending) (w' : World) : Prop :=
  e = .returned (.tuple #[.string ⟨(memberAt L i t).1.toArray⟩, .string ⟨(memberAt L i t).2.1.toArray⟩, .string ⟨(memberAt L i t).2.2.1.toArray⟩, .bool (memberAt L i t).2.2.2]) ∧ Below w.heap.size w w'
theorem MemberRet.no {L : List KV} {i t : Int} {w w' : World} (h : ¬ ((t = 9 ∨ t = 10) ∧ isT L i t = true ∧ isT L (kAt L i).b 12 = true ∧ (classAt L (kAt L i).a).2 = true ∧ isT L (kAt L (kAt L i).b).a 1 = true ∧ isT L (kAt L (kAt L i).b).b 1 = true)) (hb : Below w.heap.size w w') :
    MemberRet L i t w (.returned (.tuple #[.string ⟨#[]⟩, .string ⟨#[]⟩, .string ⟨#[]⟩, .bool false])) w' := by
  unfold MemberRet memberAt
  rw [if_neg h]
  exact ⟨rfl, hb⟩
theorem MemberRet.yes {L : List KV} {i t : Int} {w w' : World} (h : ((t = 9 ∨ t = 10) ∧ isT L i t = true ∧ isT L (kAt L i).b 12 = true ∧ (classAt L (kAt L i).a).2 = true ∧ isT L (kAt L (kAt L i).b).a 1 = true ∧ isT L (kAt L (kAt L i).b).b 1 = true)) (hb : Below w.heap.size w w') :
    MemberRet L i t w (.returned (.tuple #[.string ⟨(classAt L (kAt L i).a).1.toArray⟩, .string ⟨(textAt L (kAt L (kAt L i).b).a).toArray⟩, .string ⟨(textAt L (kAt L (kAt L i).b).b).toArray⟩, .bool true])) w' := by
  unfold MemberRet memberAt
  rw [if_pos h]
  exact ⟨rfl, hb⟩
set_option maxRecDepth 100000 in
set_option maxHeartbeats 4000000 in
theorem Text_any (w : World) (a : Option Addr) (n cap : Nat) (L : List KV) (i : Int) (hs : Ks w a n L) (hn : n ≤ 65536) : Calls Try.prog 81 #[.slice a n cap, .int .i64 i] w (TextRet L i w) := by
  have C1 := is_any w a n cap L i 1 hs hn
  unfold TextRet textAt
  cases h : isT L i 1
  · rw [h] at C1
    have K1 := Lib.hid C1
    clear C1 hs h
    go_enter Try.func81, Try.ntmps81
    go_wp2_with fail
    refine K1.out.mono ?_
    rintro e w' ⟨rfl, rfl⟩
    go_wp2_with fail
    go_ret2
    exact ⟨rfl, rfl⟩
  · rw [h] at C1
    have K1 := Lib.hid C1
    obtain ⟨h1, h2, _⟩ := isT_true h
    rw [hs.1] at h2
    obtain ⟨k, rfl⟩ : ∃ k : Nat, i = k := ⟨i.toNat, by omega⟩
    obtain ⟨b, off, rfl, _, hk⟩ := hs.at k (by omega)
    have g4 := hk.c4
    have k0 : 0 < k := by omega
    have k1 : k < n := by omega
    rw [if_pos rfl]
    clear C1 hs h h1 h2 hk
    go_enter Try.func81, Try.ntmps81
    go_wp2_with fail
    refine K1.out.mono ?_
    rintro e w' ⟨rfl, rfl⟩
    go_wp2_with fail
    go_ret2
    exact ⟨rfl, rfl⟩
set_option maxRecDepth 100000 in
set_option maxHeartbeats 4000000 in
theorem Class_any (w : World) (a : Option Addr) (n cap : Nat) (L : List KV) (i : Int) (hs : Ks w a n L) (hn : n ≤ 65536) : Calls Try.prog 61 #[.slice a n cap, .int .i64 i] w (ClassRet L i w) := by
  have C1 := is_any w a n cap L i 7 hs hn
  unfold ClassRet classAt
  cases h : isT L i 7
  · rw [h] at C1
    have K1 := Lib.hid C1
    clear C1 hs h
    go_enter Try.func61, Try.ntmps61
    go_wp2_with fail
    refine K1.out.mono ?_
    rintro e w' ⟨rfl, rfl⟩
    go_wp2_with fail
    go_ret2
    exact ⟨rfl, rfl⟩
  · rw [h] at C1
    have K1 := Lib.hid C1
    obtain ⟨h1, h2, _⟩ := isT_true h
    rw [hs.1] at h2
    obtain ⟨k, rfl⟩ : ∃ k : Nat, i = k := ⟨i.toNat, by omega⟩
    have C2 := Text_any w a n cap L (kAt L k).a hs hn
    unfold TextRet at C2
    have K2 := Lib.hid C2
    obtain ⟨b, off, rfl, _, hk⟩ := hs.at k (by omega)
    have g1 := hk.c1
    have k0 : 0 < k := by omega
    have k1 : k < n := by omega
    rw [if_pos rfl]
    clear C1 C2 hs h h1 h2 hk
    go_enter Try.func61, Try.ntmps61
    go_wp2_with fail
    refine K1.out.mono ?_
    rintro e w' ⟨rfl, rfl⟩
    go_wp2_with fail
    refine K2.out.mono ?_
    rintro e w' ⟨rfl, rfl⟩
    go_wp2_with fail
    go_ret2
    exact ⟨rfl, rfl⟩
set_option maxRecDepth 100000 in
set_option maxHeartbeats 4000000 in
theorem refText_any (w : World) (a : Option Addr) (n cap : Nat) (L : List KV) (i : Int) (hs : Ks w a n L) (hn : n ≤ 65536) : Calls Try.prog 78 #[.slice a n cap, .int .i64 i] w (TextRet L i w) := by
  have C1 := refis_any w a n cap L i 1 hs hn
  unfold TextRet textAt
  cases h : isT L i 1
  · rw [h] at C1
    have K1 := Lib.hid C1
    clear C1 hs h
    go_enter Try.func78, Try.ntmps78
    go_wp2_with fail
    refine K1.out.mono ?_
    rintro e w' ⟨rfl, rfl⟩
    go_wp2_with fail
    go_ret2
    exact ⟨rfl, rfl⟩
  · rw [h] at C1
    have K1 := Lib.hid C1
    obtain ⟨h1, h2, _⟩ := isT_true h
    rw [hs.1] at h2
    obtain ⟨k, rfl⟩ : ∃ k : Nat, i = k := ⟨i.toNat, by omega⟩
    obtain ⟨b, off, rfl, _, hk⟩ := hs.at k (by omega)
    have g4 := hk.c4
    have k0 : 0 < k := by omega
    have k1 : k < n := by omega
    rw [if_pos rfl]
    clear C1 hs h h1 h2 hk
    go_enter Try.func78, Try.ntmps78
    go_wp2_with fail
    refine K1.out.mono ?_
    rintro e w' ⟨rfl, rfl⟩
    go_wp2_with fail
    go_ret2
    exact ⟨rfl, rfl⟩
set_option maxRecDepth 100000 in
set_option maxHeartbeats 4000000 in
theorem refClass_any (w : World) (a : Option Addr) (n cap : Nat) (L : List KV) (i : Int) (hs : Ks w a n L) (hn : n ≤ 65536) : Calls Try.prog 55 #[.slice a n cap, .int .i64 i] w (ClassRet L i w) := by
  have C1 := refis_any w a n cap L i 7 hs hn
  unfold ClassRet classAt
  cases h : isT L i 7
  · rw [h] at C1
    have K1 := Lib.hid C1
    clear C1 hs h
    go_enter Try.func55, Try.ntmps55
    go_wp2_with fail
    refine K1.out.mono ?_
    rintro e w' ⟨rfl, rfl⟩
    go_wp2_with fail
    go_ret2
    exact ⟨rfl, rfl⟩
  · rw [h] at C1
    have K1 := Lib.hid C1
    obtain ⟨h1, h2, _⟩ := isT_true h
    rw [hs.1] at h2
    obtain ⟨k, rfl⟩ : ∃ k : Nat, i = k := ⟨i.toNat, by omega⟩
    have C2 := refText_any w a n cap L (kAt L k).a hs hn
    unfold TextRet at C2
    have K2 := Lib.hid C2
    obtain ⟨b, off, rfl, _, hk⟩ := hs.at k (by omega)
    have g1 := hk.c1
    have k0 : 0 < k := by omega
    have k1 : k < n := by omega
    rw [if_pos rfl]
    clear C1 C2 hs h h1 h2 hk
    go_enter Try.func55, Try.ntmps55
    go_wp2_with fail
    refine K1.out.mono ?_
    rintro e w' ⟨rfl, rfl⟩
    go_wp2_with fail
    refine K2.out.mono ?_
    rintro e w' ⟨rfl, rfl⟩
    go_wp2_with fail
    go_ret2
    exact ⟨rfl, rfl⟩
end Go.Proofs.Ytnfhiakdbakpgaa
/- pool: bare. No condition. -/
namespace Go.Proofs.Ytnfhiakdbakpgaa
open Go.ChangeShapes Go.WideShapes Go.ChangeAt Go.RowKit
/-- A constant without what it may not have. -/
def bareV (c : KV) : KV :=
  ⟨c.tag, if c.tag = 9 ∨ c.tag = 10 ∨ c.tag = 12 ∨ c.tag = 7 ∨ c.tag = 8 then c.a else 0, if c.tag = 9 ∨ c.tag = 10 ∨ c.tag = 12 then c.b else 0, if c.tag = 3 then wrap32 c.n else if c.tag = 5 then c.n else 0, if c.tag = 1 then c.s else []⟩
def kV (c : KV) : Value := .agg #[.int .i64 c.tag, .int .i64 c.a, .int .i64 c.b, .int .i64 c.n, .string ⟨c.s.toArray⟩]
theorem infoConst : (Try.prog.info? 42).map (·.size) = some 5 := by kernel_rfl
theorem blk_0 (w : World) (A B C : Obj) : (((w.alloc A).alloc B).alloc C).heap[w.heap.size]? = some A := by
  rw [Below.heap_alloc _ _ _ (by simp; omega), Below.heap_alloc _ _ _ (by simp)]; exact heap_alloc_last w A
theorem blk_1 (w : World) (A B C : Obj) : (((w.alloc A).alloc B).alloc C).heap[w.heap.size + 1]? = some B := by
  rw [Below.heap_alloc _ _ _ (by simp)]
  have := heap_alloc_last (w.alloc A) B
  simpa using this
theorem below_3 (w : World) (A B C : Obj) : Below w.heap.size w (((w.alloc A).alloc B).alloc C) := (((Below.refl _ _).alloc (Nat.le_refl _) _).alloc (by simp) _).alloc (by simp; omega) _
set_option maxRecDepth 100000 in
set_option maxHeartbeats 4000000 in
theorem bare_1 (w : World) (t a b n : Int) (s : List UInt8) : Calls Try.prog 59 #[kV ⟨1, a, b, n, s⟩] w fun e w' => e = .returned (kV (bareV ⟨1, a, b, n, s⟩)) ∧ Below w.heap.size w w' := by
  unfold kV
  go_enter Try.func59, Try.ntmps59
  go_wp2_with fail
  unfold bareV
  simp only [reduceCtorEq, if_true, if_false, or_true, true_or, or_false, false_or, Int.reduceEq, or_self]
  exact bodyPost_ret (results_cell_row rfl _ _ (w.heap.size + 1) _ _ _ _ rfl (blk_1 _ _ _ _) Try.underlying42 rfl infoConst) rfl ⟨rfl, below_3 _ _ _ _⟩
set_option maxRecDepth 100000 in
set_option maxHeartbeats 4000000 in
theorem bare_3 (w : World) (t a b n : Int) (s : List UInt8) : Calls Try.prog 59 #[kV ⟨3, a, b, n, s⟩] w fun e w' => e = .returned (kV (bareV ⟨3, a, b, n, s⟩)) ∧ Below w.heap.size w w' := by
  unfold kV
  go_enter Try.func59, Try.ntmps59
  go_wp2_with fail
  unfold bareV
  simp only [reduceCtorEq, if_true, if_false, or_true, true_or, or_false, false_or, Int.reduceEq, or_self]
  have hw : wrap64 (wrap32 n) = wrap32 n := by unfold wrap64 wrap32; omega
  rw [hw]
  exact bodyPost_ret (results_cell_row rfl _ _ (w.heap.size + 1) _ _ _ _ rfl (blk_1 _ _ _ _) Try.underlying42 rfl infoConst) rfl ⟨rfl, below_3 _ _ _ _⟩
set_option maxRecDepth 100000 in
set_option maxHeartbeats 4000000 in
theorem bare_5 (w : World) (t a b n : Int) (s : List UInt8) : Calls Try.prog 59 #[kV ⟨5, a, b, n, s⟩] w fun e w' => e = .returned (kV (bareV ⟨5, a, b, n, s⟩)) ∧ Below w.heap.size w w' := by
  unfold kV
  go_enter Try.func59, Try.ntmps59
  go_wp2_with fail
  unfold bareV
  simp only [reduceCtorEq, if_true, if_false, or_true, true_or, or_false, false_or, Int.reduceEq, or_self]
  exact bodyPost_ret (results_cell_row rfl _ _ (w.heap.size + 1) _ _ _ _ rfl (blk_1 _ _ _ _) Try.underlying42 rfl infoConst) rfl ⟨rfl, below_3 _ _ _ _⟩
set_option maxRecDepth 100000 in
set_option maxHeartbeats 4000000 in
theorem bare_9 (w : World) (t a b n : Int) (s : List UInt8) : Calls Try.prog 59 #[kV ⟨9, a, b, n, s⟩] w fun e w' => e = .returned (kV (bareV ⟨9, a, b, n, s⟩)) ∧ Below w.heap.size w w' := by
  unfold kV
  go_enter Try.func59, Try.ntmps59
  go_wp2_with fail
  unfold bareV
  simp only [reduceCtorEq, if_true, if_false, or_true, true_or, or_false, false_or, Int.reduceEq, or_self]
  exact bodyPost_ret (results_cell_row rfl _ _ (w.heap.size + 1) _ _ _ _ rfl (blk_1 _ _ _ _) Try.underlying42 rfl infoConst) rfl ⟨rfl, below_3 _ _ _ _⟩
set_option maxRecDepth 100000 in
set_option maxHeartbeats 4000000 in
theorem bare_10 (w : World) (t a b n : Int) (s : List UInt8) : Calls Try.prog 59 #[kV ⟨10, a, b, n, s⟩] w fun e w' => e = .returned (kV (bareV ⟨10, a, b, n, s⟩)) ∧ Below w.heap.size w w' := by
  unfold kV
  go_enter Try.func59, Try.ntmps59
  go_wp2_with fail
  unfold bareV
  simp only [reduceCtorEq, if_true, if_false, or_true, true_or, or_false, false_or, Int.reduceEq, or_self]
  exact bodyPost_ret (results_cell_row rfl _ _ (w.heap.size + 1) _ _ _ _ rfl (blk_1 _ _ _ _) Try.underlying42 rfl infoConst) rfl ⟨rfl, below_3 _ _ _ _⟩
set_option maxRecDepth 100000 in
set_option maxHeartbeats 4000000 in
theorem bare_12 (w : World) (t a b n : Int) (s : List UInt8) : Calls Try.prog 59 #[kV ⟨12, a, b, n, s⟩] w fun e w' => e = .returned (kV (bareV ⟨12, a, b, n, s⟩)) ∧ Below w.heap.size w w' := by
  unfold kV
  go_enter Try.func59, Try.ntmps59
  go_wp2_with fail
  unfold bareV
  simp only [reduceCtorEq, if_true, if_false, or_true, true_or, or_false, false_or, Int.reduceEq, or_self]
  exact bodyPost_ret (results_cell_row rfl _ _ (w.heap.size + 1) _ _ _ _ rfl (blk_1 _ _ _ _) Try.underlying42 rfl infoConst) rfl ⟨rfl, below_3 _ _ _ _⟩
set_option maxRecDepth 100000 in
set_option maxHeartbeats 4000000 in
theorem bare_7 (w : World) (t a b n : Int) (s : List UInt8) : Calls Try.prog 59 #[kV ⟨7, a, b, n, s⟩] w fun e w' => e = .returned (kV (bareV ⟨7, a, b, n, s⟩)) ∧ Below w.heap.size w w' := by
  unfold kV
  go_enter Try.func59, Try.ntmps59
  go_wp2_with fail
  unfold bareV
  simp only [reduceCtorEq, if_true, if_false, or_true, true_or, or_false, false_or, Int.reduceEq, or_self]
  exact bodyPost_ret (results_cell_row rfl _ _ (w.heap.size + 1) _ _ _ _ rfl (blk_1 _ _ _ _) Try.underlying42 rfl infoConst) rfl ⟨rfl, below_3 _ _ _ _⟩
set_option maxRecDepth 100000 in
set_option maxHeartbeats 4000000 in
theorem bare_8 (w : World) (t a b n : Int) (s : List UInt8) : Calls Try.prog 59 #[kV ⟨8, a, b, n, s⟩] w fun e w' => e = .returned (kV (bareV ⟨8, a, b, n, s⟩)) ∧ Below w.heap.size w w' := by
  unfold kV
  go_enter Try.func59, Try.ntmps59
  go_wp2_with fail
  unfold bareV
  simp only [reduceCtorEq, if_true, if_false, or_true, true_or, or_false, false_or, Int.reduceEq, or_self]
  exact bodyPost_ret (results_cell_row rfl _ _ (w.heap.size + 1) _ _ _ _ rfl (blk_1 _ _ _ _) Try.underlying42 rfl infoConst) rfl ⟨rfl, below_3 _ _ _ _⟩
set_option maxRecDepth 100000 in
set_option maxHeartbeats 4000000 in
theorem bare_else (w : World) (t a b n : Int) (s : List UInt8) (h : t ≠ 1 ∧ t ≠ 3 ∧ t ≠ 5 ∧ t ≠ 9 ∧ t ≠ 10 ∧ t ≠ 12 ∧ t ≠ 7 ∧ t ≠ 8) : Calls Try.prog 59 #[kV ⟨t, a, b, n, s⟩] w fun e w' => e = .returned (kV (bareV ⟨t, a, b, n, s⟩)) ∧ Below w.heap.size w w' := by
  unfold kV
  obtain ⟨h1, h3, h5, h9, h10, h12, h7, h8⟩ := h
  have HB := Lib.hid (show bareV ⟨t, a, b, n, s⟩ = ⟨t, 0, 0, 0, []⟩ by unfold bareV; simp [h1, h3, h5, h9, h10, h12, h7, h8])
  have e1 : (t == 1) = false := by simp [h1]
  have e3 : (t == 3) = false := by simp [h3]
  have e5 : (t == 5) = false := by simp [h5]
  have e9 : (t == 9) = false := by simp [h9]
  have e10 : (t == 10) = false := by simp [h10]
  have e12 : (t == 12) = false := by simp [h12]
  have e7 : (t == 7) = false := by simp [h7]
  have e8 : (t == 8) = false := by simp [h8]
  clear h1 h3 h5 h9 h10 h12 h7 h8
  go_enter Try.func59, Try.ntmps59
  go_wp2_with fail
  rw [HB.out]
  exact bodyPost_ret (results_cell_row rfl _ _ (w.heap.size + 1) _ _ _ _ rfl (blk_1 _ _ _ _) Try.underlying42 rfl infoConst) rfl ⟨rfl, below_3 _ _ _ _⟩
theorem bare_any (w : World) (c : KV) : Calls Try.prog 59 #[kV c] w fun e w' => e = .returned (kV (bareV c)) ∧ Below w.heap.size w w' := by
  obtain ⟨t, a, b, n, s⟩ := c
  by_cases h1 : t = 1
  · subst h1; exact bare_1 w 0 a b n s
  by_cases h3 : t = 3
  · subst h3; exact bare_3 w 0 a b n s
  by_cases h5 : t = 5
  · subst h5; exact bare_5 w 0 a b n s
  by_cases h9 : t = 9
  · subst h9; exact bare_9 w 0 a b n s
  by_cases h10 : t = 10
  · subst h10; exact bare_10 w 0 a b n s
  by_cases h12 : t = 12
  · subst h12; exact bare_12 w 0 a b n s
  by_cases h7 : t = 7
  · subst h7; exact bare_7 w 0 a b n s
  by_cases h8 : t = 8
  · subst h8; exact bare_8 w 0 a b n s
  exact bare_else w t a b n s ⟨h1, h3, h5, h9, h10, h12, h7, h8⟩
end Go.Proofs.Ytnfhiakdbakpgaa
/- utf: the walks of the program's functions and the reference's. No condition. -/
namespace Go.Proofs.Ytnfhiakdbakpgaa
open Go.ChangeShapes Go.WideShapes Go.ChangeAt Go.RowKit
theorem oneBu : OneE 29 5 (.int .u8 0) 1 := ⟨Try.underlying29, by kernel_rfl, rfl⟩
theorem oneU : OneE 120 39 (.int .u16 0) 2 := ⟨Try.underlying120, by kernel_rfl, rfl⟩

set_option maxRecDepth 100000 in
set_option maxHeartbeats 1000000 in
theorem refunit_any (w : World) (u : Nat) (h1 : u < 65536) :
    Calls Try.prog 87 #[.int .u16 u] w (OwnRet encB 5 w.heap.size w (unitB u)) := by
  by_cases c1 : 1 ≤ u ∧ u < 128
  · have hU := unitB_one c1.1 c1.2
    have HU := Lib.hid hU
    obtain ⟨c1, c2⟩ := c1
    clear hU
    go_enter Try.func87, Try.ntmps87
    go_wp2
    go_ret
    exact ⟨_, 1, rfl, by rw [HU.out]; exact World.ownsRow_lit w #[.int .u8 (u : Int)] 1 (Nat.le_refl _) (by decide) rfl, (Below.refl _ _).alloc (Nat.le_refl _) _⟩
  by_cases c2 : u < 2048
  · have hU := unitB_two c1 c2
    have HU := Lib.hid hU
    clear hU
    by_cases c0 : u = 0
    · subst c0
      go_enter Try.func87, Try.ntmps87
      go_wp2
      go_ret
      exact ⟨_, 2, rfl, by rw [HU.out]; exact World.ownsRow_lit w #[.int .u8 192, .int .u8 128] 2 (Nat.le_refl _) (by decide) rfl, (Below.refl _ _).alloc (Nat.le_refl _) _⟩
    · have c4 : ¬ u ≤ 127 := by omega
      go_enter Try.func87, Try.ntmps87
      go_wp2
      go_ret
      exact ⟨_, 2, rfl, by rw [HU.out]; exact World.ownsRow_lit w #[.int .u8 (192 + (u : Int) / 64), .int .u8 (128 + (u : Int) % 64)] 2 (Nat.le_refl _) (by decide) rfl, (Below.refl _ _).alloc (Nat.le_refl _) _⟩
  · have hU := unitB_three c2 h1
    have HU := Lib.hid hU
    have c4 : ¬ u ≤ 127 := by omega
    clear hU
    go_enter Try.func87, Try.ntmps87
    go_wp2
    go_ret
    exact ⟨_, 3, rfl, by rw [HU.out]; exact World.ownsRow_lit w #[.int .u8 (224 + (u : Int) / 4096), .int .u8 (128 + (u : Int) / 64 % 64), .int .u8 (128 + (u : Int) % 64)] 3 (Nat.le_refl _) (by decide) rfl, (Below.refl _ _).alloc (Nat.le_refl _) _⟩

set_option maxRecDepth 100000 in
set_option maxHeartbeats 1000000 in
theorem tail_any (w : World) (a : Option Addr) (n cap : Nat) (bs : List UInt8) (i : Nat) (hs : Sl encB w a n bs) (hn : n ≤ 65536) (hi : i ≤ 65536) :
    Calls Try.prog 90 #[.slice a n cap, .int .i64 i] w fun e w' => e = .returned (.tuple #[.int .u16 ((tailN bs i).1 : Nat), .bool (tailN bs i).2]) ∧ w = w' := by
  have HS := Lib.hid hs
  clear hs
  by_cases hin : i < n
  · obtain ⟨b, off, rfl, hbl, hc⟩ := HS.out.2 (by omega)
    have hil : i < bs.length := by rw [HS.out.1]; exact hin
    have hck : w.cell? ⟨b, off + i, none⟩ = some (.int .u8 (bs[i].toNat : Int)) := hc i hil
    have hT : tailN bs i = if bs[i].toNat / 64 = 2 then (bs[i].toNat % 64, true) else (0, false) := by
      unfold tailN; rw [List.getElem?_eq_getElem hil]
    obtain ⟨c, hcq⟩ : ∃ c, c = bs[i].toNat := ⟨_, rfl⟩
    have hc2 : c < 256 := by have := bs[i].toNat_lt; omega
    rw [← hcq] at hck hT
    have HT := Lib.hid hT
    clear hT hcq hc hbl
    by_cases h2 : c / 64 = 2
    · have HH := Lib.hid h2
      have h3 : ((c : Int) / 64 != 2) = false := by simp; omega
      clear h2
      go_enter Try.func90, Try.ntmps90
      go_wp2
      go_ret2
      exact ⟨by rw [HT.out, if_pos HH.out]; rfl, rfl⟩
    · have HH := Lib.hid h2
      have h3 : ((c : Int) / 64 != 2) = true := by simp; omega
      clear h2
      go_enter Try.func90, Try.ntmps90
      go_wp2
      go_ret2
      exact ⟨by rw [HT.out, if_neg HH.out]; rfl, rfl⟩
  · have hT : tailN bs i = (0, false) := by
      unfold tailN; rw [List.getElem?_eq_none (by rw [HS.out.1]; omega)]
    have HT := Lib.hid hT
    clear hT
    go_enter Try.func90, Try.ntmps90
    go_wp2
    go_ret2
    exact ⟨by rw [HT.out]; rfl, rfl⟩

/-- 'take' on bytes that are not none. -/
def TakeRet (w : World) (p : Nat × Nat) (e : Ending) (w' : World) : Prop := e = .returned (.tuple #[.int .u16 (p.1 : Nat), .int .i64 (p.2 : Nat)]) ∧ w = w'

set_option maxRecDepth 100000 in
set_option maxHeartbeats 2000000 in
theorem take_any (w : World) (a : Option Addr) (n cap : Nat) (bs : List UInt8) (hs : Sl encB w a n bs) (hn : n ≤ 65536) (hp : 0 < n) :
    Calls Try.prog 89 #[.slice a n cap] w (TakeRet w (takeN bs)) := by
  have HS := Lib.hid hs
  clear hs
  obtain ⟨b, off, rfl, hbl, hc⟩ := HS.out.2 hp
  have hil : 0 < bs.length := by rw [HS.out.1]; exact hp
  have hck : w.cell? ⟨b, off, none⟩ = some (.int .u8 (bs[0].toNat : Int)) := hc 0 hil
  have hx := tailN_lt bs 1
  have hy := tailN_lt bs 2
  have hT : takeN bs = takeOf bs[0].toNat (tailN bs 1).1 (tailN bs 1).2 (tailN bs 2).1 (tailN bs 2).2 := by
    unfold takeN; rw [List.getElem?_eq_getElem hil]; rfl
  have t1 := fun w' hh => tail_any w' (some ⟨b, off, none⟩) n cap bs 1 hh hn (by decide)
  have t2 := fun w' hh => tail_any w' (some ⟨b, off, none⟩) n cap bs 2 hh hn (by decide)
  obtain ⟨c, hcq⟩ : ∃ c, c = bs[0].toNat := ⟨_, rfl⟩
  have hc2 : c < 256 := by have := bs[0].toNat_lt; omega
  rw [← hcq] at hck hT
  obtain ⟨x, hxq⟩ : ∃ x, x = (tailN bs 1).1 := ⟨_, rfl⟩
  obtain ⟨one, h1q⟩ : ∃ x, x = (tailN bs 1).2 := ⟨_, rfl⟩
  obtain ⟨y, hyq⟩ : ∃ x, x = (tailN bs 2).1 := ⟨_, rfl⟩
  obtain ⟨both, h2q⟩ : ∃ x, x = (tailN bs 2).2 := ⟨_, rfl⟩
  rw [← hxq] at hx hT t1
  rw [← h1q] at hT t1
  rw [← hyq] at hy hT t2
  rw [← h2q] at hT t2
  have T1 := Lib.hid t1
  have T2 := Lib.hid t2
  rw [hT]
  clear hxq h1q hyq h2q hcq hc hbl hT t1 t2
  have o1 := or16_join (x := c % 32 * 64) (y := x) 6 (by omega) (by omega) (by omega)
  have o2 := or16_join (x := c % 16 * 4096) (y := x * 64) 12 (by omega) (by omega) (by omega)
  have o3 := or16_join (x := c % 16 * 4096 + x * 64) (y := y) 6 (by omega) (by omega) (by omega)
  push_cast at o1 o2 o3
  have a1 := u8_and15 (x := (c : Int)) (by omega) (by omega)
  go_enter Try.func89, Try.ntmps89
  go_wp2_with fail
  refine (T1.out _ HS.out).mono ?_
  rintro e w1 ⟨rfl, rfl⟩
  go_wp2_with fail
  refine (T2.out _ HS.out).mono ?_
  rintro e w1 ⟨rfl, rfl⟩
  clear T1 T2
  by_cases c1 : c ≠ 0 ∧ c < 128
  · have HR := Lib.hid (show takeOf c x one y both = (c, 1) by unfold takeOf; rw [if_pos c1])
    obtain ⟨c1, c2⟩ := c1
    have c3 : ((c : Int) != 0) = true := by simp; omega
    clear c1
    go_wp2
    go_ret2
    exact ⟨by rw [HR.out]; rfl, rfl⟩
  have HN := Lib.hid c1
  by_cases c0 : c = 0
  · subst c0
    have HR := Lib.hid (show takeOf 0 x one y both = (0, 0) by unfold takeOf; simp)
    clear c1
    go_wp2
    go_ret2
    exact ⟨by rw [HR.out]; rfl, rfl⟩
  have c2 : 128 ≤ c := by omega
  have c3 : ((c : Int) != 0) = true := by simp; omega
  clear c1 c0
  by_cases c6 : c / 32 = 6
  · have h6 : ((c : Int) / 32 == 6) = true := by simp; omega
    have h14 : ((c : Int) / 16 == 14) = false := by simp; omega
    have H6 := Lib.hid c6
    have H14 := Lib.hid (show ¬ c / 16 = 14 by omega)
    clear c6
    cases one
    · have HR := Lib.hid (show takeOf c x false y both = (0, 0) by unfold takeOf; rw [if_neg HN.out, if_neg (by simp), if_neg (by simp)])
      go_wp2
      go_ret2
      exact ⟨by rw [HR.out]; rfl, rfl⟩
    · by_cases u0 : c % 32 * 64 + x = 0
      · have HR := Lib.hid (show takeOf c x true y both = (c % 32 * 64 + x, 2) by unfold takeOf; rw [if_neg HN.out, if_pos ⟨H6.out, rfl⟩, if_pos (.inl u0)])
        have u1 : (((c : Int) % 32 * 64 + x == 0)) = true := by simp; omega
        clear u0
        go_wp2
        go_ret2
        exact ⟨by rw [HR.out]; rfl, rfl⟩
      · have u1 : (((c : Int) % 32 * 64 + x == 0)) = false := by simp; omega
        have HU := Lib.hid u0
        clear u0
        by_cases u2 : 128 ≤ c % 32 * 64 + x
        · have HR := Lib.hid (show takeOf c x true y both = (c % 32 * 64 + x, 2) by unfold takeOf; rw [if_neg HN.out, if_pos ⟨H6.out, rfl⟩, if_pos (.inr u2)])
          go_wp2
          go_ret2
          exact ⟨by rw [HR.out]; rfl, rfl⟩
        · have HR := Lib.hid (show takeOf c x true y both = (0, 0) by unfold takeOf; rw [if_neg HN.out, if_pos ⟨H6.out, rfl⟩, if_neg (by have := HU.out; omega)])
          go_wp2
          go_ret2
          exact ⟨by rw [HR.out]; rfl, rfl⟩
  · have h6 : ((c : Int) / 32 == 6) = false := by simp; omega
    have H6 := Lib.hid c6
    clear c6
    by_cases c14 : c / 16 = 14
    · have h14 : ((c : Int) / 16 == 14) = true := by simp; omega
      have H14 := Lib.hid c14
      clear c14
      cases one
      · have HR := Lib.hid (show takeOf c x false y both = (0, 0) by unfold takeOf; rw [if_neg HN.out, if_neg (by simp), if_neg (by simp)])
        go_wp2
        go_ret2
        exact ⟨by rw [HR.out]; rfl, rfl⟩
      cases both
      · have HR := Lib.hid (show takeOf c x true y false = (0, 0) by unfold takeOf; rw [if_neg HN.out, if_neg (by simp [H6.out]), if_neg (by simp)])
        go_wp2
        go_ret2
        exact ⟨by rw [HR.out]; rfl, rfl⟩
      by_cases u2 : 2048 ≤ c % 16 * 4096 + x * 64 + y
      · have HR := Lib.hid (show takeOf c x true y true = (c % 16 * 4096 + x * 64 + y, 3) by unfold takeOf; rw [if_neg HN.out, if_neg (by simp [H6.out]), if_pos ⟨H14.out, rfl, rfl⟩, if_pos u2])
        go_wp2
        go_ret2
        exact ⟨by rw [HR.out]; rfl, rfl⟩
      · have HR := Lib.hid (show takeOf c x true y true = (0, 0) by unfold takeOf; rw [if_neg HN.out, if_neg (by simp [H6.out]), if_pos ⟨H14.out, rfl, rfl⟩, if_neg u2])
        go_wp2
        go_ret2
        exact ⟨by rw [HR.out]; rfl, rfl⟩
    · have h14 : ((c : Int) / 16 == 14) = false := by simp; omega
      have HR := Lib.hid (show takeOf c x one y both = (0, 0) by unfold takeOf; rw [if_neg HN.out, if_neg (by simp [H6.out]), if_neg (by simp [c14])])
      clear c14
      go_wp2
      go_ret2
      exact ⟨by rw [HR.out]; rfl, rfl⟩
end Go.Proofs.Ytnfhiakdbakpgaa
