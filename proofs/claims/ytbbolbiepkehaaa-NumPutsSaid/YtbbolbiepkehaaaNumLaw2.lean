/- The laws of layer 2: NumInts, NumLongs, NumBack. No condition. -/
import Derived.Test.YtbbolbiepkehaaaNumReckon
import Derived.Test.YtbbolbiepkehaaaNumLaw
namespace Go.Proofs.Ytbbolbiepkehaaa
open Go.ChangeShapes Go.WideShapes Go.ChangeAt Go.RowKit

theorem reckon32_any (w : World) (op a b : Int) (ha : R32 a) (hb : R32 b) (hop : IntR op) :
    Calls Try.prog 23 #[.int .i64 op, .int .i64 a, .int .i64 b, .int .i64 32] w fun e w' => e = .returned (.tuple #[.int .i64 (spec32 op a b).1, .int .i64 (spec32 op a b).2]) ∧ w = w' := by
  by_cases c1 : op = 1
  · subst c1; exact reckon32_1 w a b ha hb
  by_cases c2 : op = 2
  · subst c2; exact reckon32_2 w a b ha hb
  by_cases c3 : op = 3
  · subst c3; exact reckon32_3 w a b ha hb
  by_cases c4 : op = 4
  · subst c4; exact reckon32_4 w a b ha hb
  by_cases c5 : op = 5
  · subst c5; exact reckon32_5 w a b ha hb
  by_cases c6 : op = 6
  · subst c6; exact reckon32_6 w a b ha hb
  by_cases c7 : op = 7
  · subst c7; exact reckon32_7 w a b ha hb
  by_cases c8 : op = 8
  · subst c8; exact reckon32_8 w a b ha hb
  by_cases c9 : op = 9
  · subst c9; exact reckon32_9 w a b ha hb
  by_cases c10 : op = 10
  · subst c10; exact reckon32_10 w a b ha hb
  by_cases c11 : op = 11
  · subst c11; exact reckon32_11 w a b ha hb
  refine reckon32_no w op a b ha hb hop ?_
  intro k h1 h2 e
  omega
theorem reckon64_any (w : World) (op a b : Int) (ha : R64 a) (hb : R64 b) (hop : IntR op) (h62 : op = 10 → b % 64 ≤ 62) :
    Calls Try.prog 23 #[.int .i64 op, .int .i64 a, .int .i64 b, .int .i64 64] w fun e w' => e = .returned (.tuple #[.int .i64 (spec64 op a b).1, .int .i64 (spec64 op a b).2]) ∧ w = w' := by
  by_cases c1 : op = 1
  · subst c1; exact reckon64_1 w a b ha hb
  by_cases c2 : op = 2
  · subst c2; exact reckon64_2 w a b ha hb
  by_cases c3 : op = 3
  · subst c3; exact reckon64_3 w a b ha hb
  by_cases c4 : op = 4
  · subst c4; exact reckon64_4 w a b ha hb
  by_cases c5 : op = 5
  · subst c5; exact reckon64_5 w a b ha hb
  by_cases c6 : op = 6
  · subst c6; exact reckon64_6 w a b ha hb
  by_cases c7 : op = 7
  · subst c7; exact reckon64_7 w a b ha hb
  by_cases c8 : op = 8
  · subst c8; exact reckon64_8 w a b ha hb
  by_cases c9 : op = 9
  · subst c9; exact reckon64_9 w a b ha hb
  by_cases c10 : op = 10
  · subst c10; exact reckon64_10 w a b ha hb (h62 rfl)
  by_cases c11 : op = 11
  · subst c11; exact reckon64_11 w a b ha hb
  refine reckon64_no w op a b ha hb hop ?_
  intro k h1 h2 e
  omega
theorem r32_wrap (n : Int) : R32 (wrap32 n) := by unfold wrap32; exact ⟨by omega, by omega⟩
theorem r32_bits (op : BinOp) (x y : Int) : R32 (bits op .i32 x y) := by
  unfold bits
  rw [IntKind.wrap_i32]
  exact ⟨by omega, by omega⟩
theorem r32_tmod {a : Int} (b : Int) (ha : R32 a) : R32 (a.tmod b) := by
  obtain ⟨a1, a2⟩ := ha
  rcases Int.lt_or_le a 0 with h | h
  · have h1 := Int.tmod_nonneg (a := -a) b (by omega)
    have h2 : (-a).tmod b = -(a.tmod b) := Int.neg_tmod a b
    have h3 : ((-a).tmod b).natAbs = (-a).natAbs % b.natAbs := Int.natAbs_tmod (-a) b
    have h4 := Nat.mod_le (-a).natAbs b.natAbs
    exact ⟨by omega, by omega⟩
  · have h1 := Int.tmod_nonneg (a := a) b h
    have h3 : (a.tmod b).natAbs = a.natAbs % b.natAbs := Int.natAbs_tmod a b
    have h4 := Nat.mod_le a.natAbs b.natAbs
    exact ⟨by omega, by omega⟩
theorem r32_shr {a : Int} (k : Nat) (ha : R32 a) : R32 (a / 2 ^ k) := by
  obtain ⟨a1, a2⟩ := ha
  have hp : (0 : Int) < 2 ^ k := Int.pow_pos (by decide)
  have h1 : (-2147483648) * 2 ^ k ≤ (-2147483648) := by
    have : (1 : Int) ≤ 2 ^ k := hp
    omega
  refine ⟨?_, ?_⟩
  · exact (Int.le_ediv_iff_mul_le hp).2 (by omega)
  · rcases Int.lt_or_le a 0 with h | h
    · have := Int.ediv_neg_of_neg_of_pos h hp
      omega
    · have := Int.ediv_le_self (2 ^ k) h
      omega
theorem spec32_range {op a b : Int} (ha : R32 a) : R32 (spec32 op a b).1 := by
  have h0 : R32 0 := ⟨by decide, by decide⟩
  unfold spec32
  by_cases c1 : op = 1
  · rw [if_pos c1]; exact r32_wrap _
  rw [if_neg c1]
  by_cases c2 : op = 2
  · rw [if_pos c2]; exact r32_wrap _
  rw [if_neg c2]
  by_cases c3 : op = 3
  · rw [if_pos c3]; exact r32_wrap _
  rw [if_neg c3]
  by_cases c4 : op = 4
  · rw [if_pos c4]
    by_cases c : b = 0
    · rw [if_pos c]; exact h0
    · rw [if_neg c]; exact r32_wrap _
  rw [if_neg c4]
  by_cases c5 : op = 5
  · rw [if_pos c5]
    by_cases c : b = 0
    · rw [if_pos c]; exact h0
    · rw [if_neg c]; exact r32_tmod _ ha
  rw [if_neg c5]
  by_cases c6 : op = 6
  · rw [if_pos c6]; show R32 (bits .and .i32 a b); exact r32_bits .and a b
  rw [if_neg c6]
  by_cases c7 : op = 7
  · rw [if_pos c7]; show R32 (bits .or .i32 a b); exact r32_bits .or a b
  rw [if_neg c7]
  by_cases c8 : op = 8
  · rw [if_pos c8]; show R32 (bits .xor .i32 a b); exact r32_bits .xor a b
  rw [if_neg c8]
  by_cases c9 : op = 9
  · rw [if_pos c9]; show R32 (wrap32 (a * 2 ^ (b % 32).toNat)); exact r32_wrap _
  rw [if_neg c9]
  by_cases c10 : op = 10
  · rw [if_pos c10]; show R32 (a / 2 ^ (b % 32).toNat); exact r32_shr (b % 32).toNat ha
  rw [if_neg c10]
  by_cases c11 : op = 11
  · rw [if_pos c11]; show R32 (wrap32 (a % 4294967296 / 2 ^ (b % 32).toNat)); exact r32_wrap _
  rw [if_neg c11]
  exact h0

set_option maxRecDepth 100000 in
set_option maxHeartbeats 2000000 in
theorem refInt_any (w : World) (op a b : Int) (ha : R32 a) (hb : R32 b) (hop : IntR op) :
    Calls Try.prog 12 #[.int .i64 op, .int .i32 a, .int .i32 b] w fun e w' => e = .returned (.tuple #[.int .i32 (spec32 op a b).1, .int .i64 (spec32 op a b).2]) ∧ w = w' := by
  have HP := Lib.hid (reckon32_any w op a b ha hb hop)
  obtain ⟨r1, r2⟩ := spec32_range (op := op) (b := b) ha
  revert HP r1 r2
  generalize spec32 op a b = r
  intro HP r1 r2
  obtain ⟨a1, a2⟩ := ha
  obtain ⟨b1, b2⟩ := hb
  go_enter Try.func12, Try.ntmps12
  go_wp2_with fail
  refine HP.out.mono ?_
  rintro e w' ⟨rfl, rfl⟩
  go_wp2
  go_ret2
  exact ⟨rfl, rfl⟩

set_option maxRecDepth 100000 in
set_option maxHeartbeats 2000000 in
theorem refLong_any (w : World) (op a b : Int) (ha : R64 a) (hb : R64 b) (hop : IntR op) :
    Calls Try.prog 18 #[.int .i64 op, .int .i64 a, .int .i64 b] w fun e w' => e = .returned (.tuple #[.int .i64 (spec64 op a b).1, .int .i64 (spec64 op a b).2]) ∧ w = w' := by
  have HA : Hid (R64 a) := ha
  have HB : Hid (R64 b) := hb
  obtain ⟨a1, a2⟩ := ha
  obtain ⟨b1, b2⟩ := hb
  have hy : (IntKind.u64.wrap b).tmod 64 = b % 64 := by rw [IntKind.wrap_u64, Int.tmod_eq_emod_of_nonneg (by omega)]; omega
  by_cases c : op = 10
  · subst c
    by_cases h63 : b % 64 = 63
    · rw [show spec64 10 a b = (a / 2 ^ (b % 64).toNat, 0) from rfl, h63, show (2 : Int) ^ (Int.toNat 63) = 9223372036854775808 from rfl]
      have HH := Lib.hid h63
      have hy2 : (IntKind.u64.wrap b).tmod 64 = 63 := by rw [hy, h63]
      clear hy h63
      by_cases hn : a < 0
      · rw [show a / 9223372036854775808 = -1 by omega]
        go_enter Try.func18, Try.ntmps18
        go_wp2
        go_ret2
        exact ⟨rfl, rfl⟩
      · rw [show a / 9223372036854775808 = 0 by omega]
        go_enter Try.func18, Try.ntmps18
        go_wp2
        go_ret2
        exact ⟨rfl, rfl⟩
    · have HP := Lib.hid (reckon64_any w 10 a b HA.out HB.out hop (fun _ => by omega))
      obtain ⟨k, hk⟩ : ∃ k : Int, k = b % 64 := ⟨_, rfl⟩
      rw [← hk] at hy h63
      have e1 := eq_no h63
      have HK := Lib.hid hk
      clear hk h63
      revert HP
      generalize spec64 10 a b = r
      intro HP
      go_enter Try.func18, Try.ntmps18
      go_wp2_with fail
      refine HP.out.mono ?_
      rintro e w' ⟨rfl, rfl⟩
      go_wp2
      go_ret2
      exact ⟨rfl, rfl⟩
  · have HP := Lib.hid (reckon64_any w op a b HA.out HB.out hop (fun h => absurd h c))
    have e1 := eq_no c
    clear hy c
    revert HP
    generalize spec64 op a b = r
    intro HP
    go_enter Try.func18, Try.ntmps18
    go_wp2_with fail
    refine HP.out.mono ?_
    rintro e w' ⟨rfl, rfl⟩
    go_wp2
    go_ret2
    exact ⟨rfl, rfl⟩

set_option maxRecDepth 100000 in
set_option maxHeartbeats 2000000 in
theorem refCmp_any (w : World) (a b : Int) : Calls Try.prog 20 #[.int .i64 a, .int .i64 b] w fun e w' => e = .returned (.int .i32 (cmpI a b)) ∧ w = w' := by
  unfold cmpI
  by_cases h : a < b
  · rw [if_pos h]
    go_enter Try.func20, Try.ntmps20
    go_wp2
    go_ret
    exact ⟨rfl, rfl⟩
  rw [if_neg h]
  by_cases h2 : b < a
  · rw [if_pos h2]
    go_enter Try.func20, Try.ntmps20
    go_wp2
    go_ret
    exact ⟨rfl, rfl⟩
  · rw [if_neg h2]
    go_enter Try.func20, Try.ntmps20
    go_wp2
    go_ret
    exact ⟨rfl, rfl⟩

set_option maxRecDepth 100000 in
set_option maxHeartbeats 2000000 in
theorem walk_NumInts (op a b : Int) (w : World) (ho : (Lit.int .i64 op).wf = true) (ha : (Lit.int .i32 a).wf = true) (hb : (Lit.int .i32 b).wf = true) :
    Calls Try.prog 4 #[.int .i64 op, .int .i32 a, .int .i32 b] w fun e w' => e = .returned (.bool true) ∧ Below w.heap.size w w' := by
  have HI : Hid (IntR op) := bounds_i64 ho
  have HA : Hid (R32 a) := bounds_i32 ha
  have HB : Hid (R32 b) := bounds_i32 hb
  clear ho ha hb
  go_enter Try.func4, Try.ntmps4
  go_wp2_with fail
  refine (fixed02_any _).mono ?_
  rintro e w1 ⟨rfl, hb1⟩
  have H1 := Lib.hid hb1
  clear hb1
  have HG := Lib.hid (Int_any w1 op a b HA.out HB.out HI.out)
  have HR := Lib.hid (refInt_any w1 op a b HA.out HB.out HI.out)
  revert HG HR
  generalize spec32 op a b = r
  intro HG HR
  go_wp2_with fail
  refine HG.out.mono ?_
  rintro e w' ⟨rfl, rfl⟩
  go_wp2_with fail
  refine HR.out.mono ?_
  rintro e w' ⟨rfl, rfl⟩
  go_wp2
  go_ret
  exact ⟨by simp, H1.out⟩

set_option maxRecDepth 100000 in
set_option maxHeartbeats 2000000 in
theorem walk_NumLongs (op a b : Int) (w : World) (ho : (Lit.int .i64 op).wf = true) (ha : (Lit.int .i64 a).wf = true) (hb : (Lit.int .i64 b).wf = true) :
    Calls Try.prog 6 #[.int .i64 op, .int .i64 a, .int .i64 b] w fun e w' => e = .returned (.bool true) ∧ Below w.heap.size w w' := by
  have HI : Hid (IntR op) := bounds_i64 ho
  have HA : Hid (R64 a) := bounds_i64 ha
  have HB : Hid (R64 b) := bounds_i64 hb
  clear ho ha hb
  go_enter Try.func6, Try.ntmps6
  go_wp2_with fail
  refine (fixed02_any _).mono ?_
  rintro e w1 ⟨rfl, hb1⟩
  have H1 := Lib.hid hb1
  clear hb1
  have HG := Lib.hid (Long_any w1 op a b HA.out HB.out HI.out)
  have HR := Lib.hid (refLong_any w1 op a b HA.out HB.out HI.out)
  have HC := Lib.hid (Cmp_any w1 a b)
  have HD := Lib.hid (refCmp_any w1 a b)
  revert HG HR HC HD
  generalize spec64 op a b = r
  generalize cmpI a b = c
  intro HG HR HC HD
  go_wp2_with fail
  refine HG.out.mono ?_
  rintro e w' ⟨rfl, rfl⟩
  go_wp2_with fail
  refine HR.out.mono ?_
  rintro e w' ⟨rfl, rfl⟩
  go_wp2_with fail
  refine HC.out.mono ?_
  rintro e w' ⟨rfl, rfl⟩
  go_wp2_with fail
  refine HD.out.mono ?_
  rintro e w' ⟨rfl, rfl⟩
  go_wp2
  go_ret
  exact ⟨by simp, H1.out⟩
end Go.Proofs.Ytbbolbiepkehaaa
