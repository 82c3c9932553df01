/- NumBack: the walk. No condition. -/
import Derived.Test.YtbbolbiepkehaaaNumLaw2
namespace Go.Proofs.Ytbbolbiepkehaaa
open Go.ChangeShapes Go.WideShapes Go.ChangeAt Go.RowKit
theorem r64_wrap (n : Int) : R64 (wrap64 n) := by unfold wrap64; exact ⟨by omega, by omega⟩
theorem r64_tmod {a : Int} (b : Int) (ha : R64 a) : R64 (a.tmod b) := by
  obtain ⟨a1, a2⟩ := ha
  rcases Int.lt_or_le a 0 with h | h
  · have h1 := Int.tmod_nonneg (a := -a) b (by omega)
    have h2 : (-a).tmod b = -(a.tmod b) := Int.neg_tmod a b
    have h3 : ((-a).tmod b).natAbs = (-a).natAbs % b.natAbs := Int.natAbs_tmod (-a) b
    have h4 := Nat.mod_le (-a).natAbs b.natAbs
    exact ⟨by omega, by omega⟩
  · have h1 := Int.tmod_nonneg (a := a) b h
    have h3 : (a.tmod b).natAbs = a.natAbs % b.natAbs := Int.natAbs_tmod a b
    have h4 := Nat.mod_le a.natAbs b.natAbs
    exact ⟨by omega, by omega⟩
theorem sub_back {a b : Int} (ha : R64 a) : wrap64 (wrap64 (a - b) + b) = a := by
  obtain ⟨a1, a2⟩ := ha
  unfold wrap64
  omega
theorem div_back {a b : Int} (ha : R64 a) : wrap64 (wrap64 (wrap64 (a.tdiv b) * b) + a.tmod b) = a := by
  obtain ⟨a1, a2⟩ := ha
  have h1 : b * a.tdiv b + a.tmod b = a := Int.mul_tdiv_add_tmod a b
  generalize a.tdiv b = q at *
  generalize a.tmod b = r at *
  obtain ⟨t, ht⟩ : ∃ t : Int, wrap64 q = q - 18446744073709551616 * t := ⟨(q + 9223372036854775808) / 18446744073709551616, by unfold wrap64; omega⟩
  rw [ht, Int.sub_mul, Int.mul_assoc, Int.mul_comm q b]
  generalize b * q = u at *
  generalize t * b = v at *
  unfold wrap64
  omega

set_option maxRecDepth 100000 in
set_option maxHeartbeats 2000000 in
theorem walk_NumBack (a b : Int) (w : World) (ha : (Lit.int .i64 a).wf = true) (hb : (Lit.int .i64 b).wf = true) :
    Calls Try.prog 7 #[.int .i64 a, .int .i64 b] w fun e w' => e = .returned (.bool true) ∧ Below w.heap.size w w' := by
  have HA : Hid (R64 a) := bounds_i64 ha
  have HB : Hid (R64 b) := bounds_i64 hb
  clear ha hb
  go_enter Try.func7, Try.ntmps7
  go_wp2_with fail
  refine (fixed02_any _).mono ?_
  rintro e w1 ⟨rfl, hb1⟩
  have H1 := Lib.hid hb1
  clear hb1
  have L1 := Long_any w1 2 a b HA.out HB.out (by unfold IntR; omega)
  have L2 := Long_any w1 1 (wrap64 (a - b)) b (r64_wrap _) HB.out (by unfold IntR; omega)
  rw [show spec64 2 a b = (wrap64 (a - b), 0) from rfl] at L1
  rw [show spec64 1 (wrap64 (a - b)) b = (wrap64 (wrap64 (a - b) + b), 0) from rfl, sub_back HA.out] at L2
  have K1 := Lib.hid L1
  have K2 := Lib.hid L2
  clear L1 L2
  revert K1 K2
  generalize wrap64 (a - b) = d
  intro K1 K2
  go_wp2_with fail
  refine K1.out.mono ?_
  rintro e w' ⟨rfl, rfl⟩
  go_wp2_with fail
  refine K2.out.mono ?_
  rintro e w' ⟨rfl, rfl⟩
  have L3 := Long_any w1 4 a b HA.out HB.out (by unfold IntR; omega)
  have L4 := Long_any w1 5 a b HA.out HB.out (by unfold IntR; omega)
  by_cases b0 : b = 0
  · rw [show spec64 4 a b = (0, 2) by simp [spec64, b0]] at L3
    rw [show spec64 5 a b = (0, 2) by simp [spec64, b0]] at L4
    have e0 : (b == 0) = true := by simp [b0]
    have K3 := Lib.hid L3
    have K4 := Lib.hid L4
    clear L3 L4 b0
    go_wp2_with fail
    refine K3.out.mono ?_
    rintro e w' ⟨rfl, rfl⟩
    go_wp2_with fail
    refine K4.out.mono ?_
    rintro e w' ⟨rfl, rfl⟩
    go_wp2
    go_ret
    exact ⟨rfl, H1.out⟩
  · rw [show spec64 4 a b = (wrap64 (a.tdiv b), 0) by simp [spec64, b0]] at L3
    rw [show spec64 5 a b = (a.tmod b, 0) by simp [spec64, b0]] at L4
    have L5 := Long_any w1 3 (wrap64 (a.tdiv b)) b (r64_wrap _) HB.out (by unfold IntR; omega)
    have L6 := Long_any w1 1 (wrap64 (wrap64 (a.tdiv b) * b)) (a.tmod b) (r64_wrap _) (r64_tmod b HA.out) (by unfold IntR; omega)
    rw [show spec64 3 (wrap64 (a.tdiv b)) b = (wrap64 (wrap64 (a.tdiv b) * b), 0) from rfl] at L5
    rw [show spec64 1 (wrap64 (wrap64 (a.tdiv b) * b)) (a.tmod b) = (wrap64 (wrap64 (wrap64 (a.tdiv b) * b) + a.tmod b), 0) from rfl, div_back HA.out] at L6
    have e0 := eq_no b0
    have K3 := Lib.hid L3
    have K4 := Lib.hid L4
    have K5 := Lib.hid L5
    have K6 := Lib.hid L6
    clear L3 L4 L5 L6 b0
    revert K3 K4 K5 K6
    generalize wrap64 (wrap64 (a.tdiv b) * b) = p
    generalize wrap64 (a.tdiv b) = q
    generalize a.tmod b = r
    intro K3 K4 K5 K6
    go_wp2_with fail
    refine K3.out.mono ?_
    rintro e w' ⟨rfl, rfl⟩
    go_wp2_with fail
    refine K4.out.mono ?_
    rintro e w' ⟨rfl, rfl⟩
    go_wp2_with fail
    refine K5.out.mono ?_
    rintro e w' ⟨rfl, rfl⟩
    go_wp2_with fail
    refine K6.out.mono ?_
    rintro e w' ⟨rfl, rfl⟩
    go_wp2
    go_ret
    exact ⟨by simp, H1.out⟩
end Go.Proofs.Ytbbolbiepkehaaa
