/- The laws of layer 2: what the document fixes, and NumGets. No condition. -/
import Derived.Test.YtbbolbiepkehaaaNumInt
namespace Go.Proofs.Ytbbolbiepkehaaa
open Go.ChangeShapes Go.WideShapes Go.ChangeAt Go.RowKit
def cmpI (a b : Int) : Int := if a < b then -1 else if b < a then 1 else 0

set_option maxRecDepth 100000 in
set_option maxHeartbeats 2000000 in
theorem isNaN64_any (w : World) (a : Int) : Calls Try.prog 32 #[.int .i64 a] w fun e w' => e = .returned (.bool false) ∧ w = w' := by
  go_enter Try.func32, Try.ntmps32
  go_wp2
  go_ret
  exact ⟨by simp, rfl⟩

set_option maxRecDepth 100000 in
set_option maxHeartbeats 2000000 in
theorem Compare64_any (w : World) (a b : Int) : Calls Try.prog 25 #[.int .i64 a, .int .i64 b] w fun e w' => e = .returned (.int .i64 (cmpI a b)) ∧ w = w' := by
  unfold cmpI
  by_cases h : a < b
  · rw [if_pos h]
    go_enter Try.func25, Try.ntmps25
    go_wp2_with fail
    refine (isNaN64_any w a).mono ?_
    rintro e w' ⟨rfl, rfl⟩
    go_wp2_with fail
    refine (isNaN64_any w b).mono ?_
    rintro e w' ⟨rfl, rfl⟩
    go_wp2
    go_ret
    exact ⟨rfl, rfl⟩
  rw [if_neg h]
  by_cases h2 : b < a
  · rw [if_pos h2]
    go_enter Try.func25, Try.ntmps25
    go_wp2_with fail
    refine (isNaN64_any w a).mono ?_
    rintro e w' ⟨rfl, rfl⟩
    go_wp2_with fail
    refine (isNaN64_any w b).mono ?_
    rintro e w' ⟨rfl, rfl⟩
    go_wp2
    go_ret
    exact ⟨rfl, rfl⟩
  · rw [if_neg h2]
    go_enter Try.func25, Try.ntmps25
    go_wp2_with fail
    refine (isNaN64_any w a).mono ?_
    rintro e w' ⟨rfl, rfl⟩
    go_wp2_with fail
    refine (isNaN64_any w b).mono ?_
    rintro e w' ⟨rfl, rfl⟩
    go_wp2
    go_ret
    exact ⟨rfl, rfl⟩

theorem cmpI_range (a b : Int) : -1 ≤ cmpI a b ∧ cmpI a b ≤ 1 := by unfold cmpI; split; omega; split <;> omega

set_option maxRecDepth 100000 in
set_option maxHeartbeats 2000000 in
theorem Cmp_any (w : World) (a b : Int) : Calls Try.prog 19 #[.int .i64 a, .int .i64 b] w fun e w' => e = .returned (.int .i32 (cmpI a b)) ∧ w = w' := by
  have HC := Lib.hid (Compare64_any w a b)
  obtain ⟨r1, r2⟩ := cmpI_range a b
  revert HC r1 r2
  generalize cmpI a b = r
  intro HC r1 r2
  go_enter Try.func19, Try.ntmps19
  go_wp2_with fail
  refine HC.out.mono ?_
  rintro e w' ⟨rfl, rfl⟩
  go_wp2
  go_ret
  exact ⟨rfl, rfl⟩

theorem fixed02_put : putB 258 2 = [1, 2] := by decide +kernel
theorem fixed02_get : getR [1, 2] 0 2 = (258, 0) := by decide +kernel
theorem fixed02_div : spec32 4 (-7) 2 = (-3, 0) := by decide +kernel
theorem fixed02_rem : spec32 5 1 0 = (0, 2) := by decide +kernel
theorem fixed02_cmp : cmpI 2 1 = 1 := by decide +kernel

set_option maxRecDepth 100000 in
set_option maxHeartbeats 2000000 in
theorem fixed02_any (w : World) : Calls Try.prog 8 #[] w fun e w' => e = .returned (.bool true) ∧ Below w.heap.size w w' := by
  go_enter Try.func8, Try.ntmps8
  go_wp2_with fail
  refine (Put_any w none 0 0 [] 258 2 (Sl.nil _ _) (by decide) (by decide) (by decide) (by decide) (by decide)).mono ?_
  rintro e w1 ⟨v1, m, rfl, hown, hb⟩
  rw [fixed02_put, List.nil_append] at hown
  obtain ⟨a1, cap1, rfl, hsl, hmc⟩ := Sl.ofOwn hown
  have hm := hsl.1
  simp only [List.length_cons, List.length_nil] at hm
  subst hm
  have HB := Lib.hid hb
  have HS := Lib.hid hsl
  have hcv := run_conv hsl cap1
  clear hown hsl hb
  go_wp2_with fail
  refine (Get_any w1 a1 2 cap1 [1, 2] 0 2 HS.out (by decide) hmc (by unfold IntR; omega) (by unfold IntR; omega)).mono ?_
  rw [fixed02_get]
  rintro e w' ⟨rfl, rfl⟩
  go_wp2_with fail
  refine (Int_any w1 4 (-7) 2 (by unfold R32; omega) (by unfold R32; omega) (by unfold IntR; omega)).mono ?_
  rw [fixed02_div]
  rintro e w' ⟨rfl, rfl⟩
  go_wp2_with fail
  refine (Int_any w1 5 1 0 (by unfold R32; omega) (by unfold R32; omega) (by unfold IntR; omega)).mono ?_
  rw [fixed02_rem]
  rintro e w' ⟨rfl, rfl⟩
  go_wp2_with fail
  refine (Cmp_any w1 2 1).mono ?_
  rw [fixed02_cmp]
  rintro e w' ⟨rfl, rfl⟩
  go_wp2
  go_ret
  exact ⟨rfl, HB.out⟩

set_option maxRecDepth 100000 in
set_option maxHeartbeats 2000000 in
theorem walk_NumGets (a : Option Addr) (len cap : Nat) (z : List Int) (i n : Int) (w : World) (h0 : IsRow .u8 w a len cap z) (hi : (Lit.int .i64 i).wf = true) (hn : (Lit.int .i64 n).wf = true) :
    Calls Try.prog 3 #[.slice a len cap, .int .i64 i, .int .i64 n] w fun e w' => e = .returned (.bool true) ∧ Below w.heap.size w w' := by
  have hcap := Row.cap h0
  obtain ⟨bs, hB, hm⟩ := Bs.ofRow h0
  unfold maxLen at hm
  have HB := Lib.hid hB.sl
  have HI : Hid (IntR i) := bounds_i64 hi
  have HN : Hid (IntR n) := bounds_i64 hn
  clear h0 hB hi hn
  go_enter Try.func3, Try.ntmps3
  go_wp2_with fail
  refine (fixed02_any _).mono ?_
  rintro e w1 ⟨rfl, hb1⟩
  by_cases hl : 2000 < len
  · go_wp2_with fail
    go_ret
    exact ⟨rfl, hb1⟩
  have H1 := Lib.hid hb1
  clear hb1
  have HG := Lib.hid (Get_any w1 a len cap bs i n (HB.out.below H1.out) (by omega) hcap HI.out HN.out)
  have HR := Lib.hid (refGet_any w1 a len cap bs i n (HB.out.below H1.out) (by omega) hcap HI.out HN.out)
  revert HG HR
  generalize getR bs i n = r
  intro HG HR
  go_wp2_with fail
  refine HG.out.mono ?_
  rintro e w' ⟨rfl, rfl⟩
  go_wp2_with fail
  refine HR.out.mono ?_
  rintro e w' ⟨rfl, rfl⟩
  go_wp2
  go_ret
  exact ⟨by simp, H1.out⟩
end Go.Proofs.Ytbbolbiepkehaaa
