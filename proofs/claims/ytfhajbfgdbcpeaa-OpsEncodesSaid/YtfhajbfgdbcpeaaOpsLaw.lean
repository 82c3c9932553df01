/- ops: the walk of OpsForms. No condition. -/
import Derived.Test.YtfhajbfgdbcpeaaOpsFix
namespace Go.Proofs.Ytfhajbfgdbcpeaa
open Go.ChangeShapes Go.WideShapes Go.ChangeAt Go.RowKit
set_option maxRecDepth 100000 in
set_option maxHeartbeats 4000000 in
theorem refLen_any (w : World) (k : Nat) (hk : k < 256) : Calls Try.prog 11 #[.int .u8 (k : Nat)] w fun e w' => e = .returned (.int .i64 (sizeN (formN k) : Nat)) ∧ w = w' := by
  have HF := Lib.hid (refForm_any w k hk)
  have h9 := formN_le k
  generalize formN k = f at *
  have h : f = 0 ∨ f = 1 ∨ f = 2 ∨ f = 3 ∨ f = 4 ∨ f = 5 ∨ f = 6 ∨ f = 7 ∨ f = 8 ∨ f = 9 := by omega
  clear h9
  rcases h with rfl | rfl | rfl | rfl | rfl | rfl | rfl | rfl | rfl | rfl
  all_goals
    go_enter Try.func11, Try.ntmps11
    go_wp2_with fail
    refine HF.out.mono ?_
    rintro e w' ⟨rfl, rfl⟩
    go_wp2_with fail
    go_ret
    exact ⟨rfl, rfl⟩
set_option maxRecDepth 100000 in
set_option maxHeartbeats 4000000 in
theorem walk_OpsForms (x : Int) (w : World) (h0 : (Lit.int .u8 x).wf = true) :
    Calls Try.prog 3 #[.int .u8 x] w fun e w' => e = .returned (.bool true) ∧ Below w.heap.size w w' := by
  obtain ⟨b0, b1⟩ := bounds_u8 h0
  obtain ⟨k, rfl⟩ : ∃ k : Nat, x = k := ⟨x.toNat, by omega⟩
  have hk : k < 256 := by omega
  have HF := Lib.hid (fixed13 w)
  have H1 := Lib.hid (fun w' => Form_any w' k hk)
  have H2 := Lib.hid (fun w' => refForm_any w' k hk)
  have H3 := Lib.hid (fun w' => Len_any w' k hk)
  have H4 := Lib.hid (fun w' => refLen_any w' k hk)
  have h3 := sizeN_le (formN k)
  have h9 := formN_le k
  generalize sizeN (formN k) = s at *
  generalize formN k = f at *
  clear h0
  go_enter Try.func3, Try.ntmps3
  go_wp2_with fail
  refine HF.out.mono ?_
  rintro e w1 ⟨rfl, hb1⟩
  have HB1 := Lib.hid hb1
  clear hb1
  go_wp2_with fail
  refine (H1.out _).mono ?_
  rintro e w2 ⟨rfl, hb2⟩
  have HB2 := Lib.hid (HB1.out.trans (hb2.mono HB1.out.size))
  clear hb2
  go_wp2_with fail
  refine (H2.out _).mono ?_
  rintro e w' ⟨rfl, rfl⟩
  go_wp2_with fail
  refine (H3.out _).mono ?_
  rintro e w3 ⟨rfl, hb3⟩
  have HB3 := Lib.hid (HB2.out.trans (hb3.mono HB2.out.size))
  clear hb3
  go_wp2_with fail
  refine (H4.out _).mono ?_
  rintro e w' ⟨rfl, rfl⟩
  go_wp2_with fail
  go_ret
  exact ⟨rfl, HB3.out⟩
end Go.Proofs.Ytfhajbfgdbcpeaa
