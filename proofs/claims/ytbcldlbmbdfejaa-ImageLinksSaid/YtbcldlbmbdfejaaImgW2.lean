/- image: the widths at every operation; the reference's. No condition. -/
import Derived.Test.YtbcldlbmbdfejaaImgW
namespace Go.Proofs.Ytbcldlbmbdfejaa
open Go.ChangeShapes Go.WideShapes Go.ChangeAt Go.RowKit
set_option maxHeartbeats 4000000 in
set_option maxRecDepth 100000 in
theorem widths_any (w : World) (k : Nat) (hk : k < 256) : Calls Try.prog 42 #[.int .u8 (k : Nat)] w fun e w' => e = .returned (.tuple #[WV (imgW k), .bool (imgW k).2.2.2]) ∧ Below w.heap.size w w' := by
  by_cases hp : plainOp k
  · exact widths_plain w k hk hp
  · have h8 : k = 18 ∨ k = 20 ∨ k = 240 ∨ k = 182 ∨ k = 178 ∨ k = 179 ∨ k = 180 ∨ k = 181 := by
      unfold plainOp at hp
      omega
    clear hp hk
    rcases h8 with rfl | rfl | rfl | rfl | rfl | rfl | rfl | rfl
    all_goals
      go_enter Try.func42, Try.ntmps42
      go_wp2_with fail
      exact bodyPost_ret (results_cell_row_tmp rfl _ _ w.heap.size _ _ _ _ rfl (heap_alloc_last w _) Try.underlying98 rfl info3) rfl ⟨rfl, (Below.refl _ _).alloc (Nat.le_refl _) _⟩
/-- The reference's answer. -/
def refWV (k : Nat) : Value := .tuple #[.int .i64 ((imgW k).1 : Nat), .int .i64 ((imgW k).2.1 : Nat), .int .i64 ((imgW k).2.2.1 : Nat), .bool (imgW k).2.2.2]
theorem refW_leaf {k : Nat} (hk : k < 256) {a b n : Nat} {ok : Bool} (h : refW k = (a, b, n, ok)) : Ending.returned (.tuple #[.int .i64 (a : Nat), .int .i64 (b : Nat), .int .i64 (n : Nat), .bool ok]) = Ending.returned (refWV k) := by
  have e := refW_eq ⟨k, hk⟩
  simp only at e
  unfold refWV
  rw [← e, h]
theorem refW_plain {k : Nat} (h : plainOp k) : refW k = if formN k = 5 then (0, 0, 0, false) else formW (formN k) := by
  obtain ⟨h1, h2, h3, h4, h5, h6, h7, h8⟩ := h
  unfold refW
  rw [if_neg h1, if_neg h2, if_neg h3, if_neg (by omega)]
theorem results_tmp4 {fn : Func} {t u v x : Tmp} (h : fn.results = #[.tmp t, .tmp u, .tmp v, .tmp x]) (tmps : Array Value) (P : Program) (w : World) :
    (results fn tmps).run P w = .ok (.tuple #[tmps.getD t undef, tmps.getD u undef, tmps.getD v undef, tmps.getD x undef]) w := by
  simp [results, h]
set_option maxHeartbeats 4000000 in
set_option maxRecDepth 100000 in
theorem refWidths_any (w : World) (k : Nat) (hk : k < 256) : Calls Try.prog 50 #[.int .u8 (k : Nat)] w fun e w' => e = .returned (refWV k) ∧ w' = w := by
  by_cases hp : plainOp k
  · have HR := Lib.hid (refW_plain hp)
    have hf9 := formN_le k
    have hF := fun w' => refForm_any w' k hk
    have HL := Lib.hid (fun a b n ok => @refW_leaf k hk a b n ok)
    obtain ⟨f, hf⟩ : ∃ f, f = formN k := ⟨_, rfl⟩
    rw [← hf] at hF hf9 HR
    obtain ⟨h1, h2, h3, h4, h5, h6, h7, h8⟩ := hp
    have b0 : ((k : Int) == 18) = false := beq_eq_false_iff_ne.2 (by omega)
    have b1 : ((k : Int) == 20) = false := beq_eq_false_iff_ne.2 (by omega)
    have b2 : ((k : Int) == 240) = false := beq_eq_false_iff_ne.2 (by omega)
    have b3 : ((k : Int) == 182) = false := beq_eq_false_iff_ne.2 (by omega)
    have b4 : ((k : Int) == 178) = false := beq_eq_false_iff_ne.2 (by omega)
    have b5 : ((k : Int) == 179) = false := beq_eq_false_iff_ne.2 (by omega)
    have b6 : ((k : Int) == 180) = false := beq_eq_false_iff_ne.2 (by omega)
    have b7 : ((k : Int) == 181) = false := beq_eq_false_iff_ne.2 (by omega)
    have HF := Lib.hid hF
    clear hf h1 h2 h3 h4 h5 h6 h7 h8 hF
    have hfs : f = 0 ∨ f = 1 ∨ f = 2 ∨ f = 3 ∨ f = 4 ∨ f = 5 ∨ f = 6 ∨ f = 7 ∨ f = 8 ∨ f = 9 := by omega
    rcases hfs with rfl | rfl | rfl | rfl | rfl | rfl | rfl | rfl | rfl | rfl
    all_goals
      go_enter Try.func50, Try.ntmps50
      go_wp2_with fail
      refine (HF.out w).mono ?_
      rintro e w' ⟨rfl, rfl⟩
      go_wp2_with fail
      refine bodyPost_ret (results_tmp4 rfl _ _ _) rfl ⟨?_, rfl⟩
      first | exact HL.out 0 0 0 false HR.out | exact HL.out 0 0 0 true HR.out | exact HL.out 1 0 0 true HR.out | exact HL.out 0 0 1 true HR.out | exact HL.out 0 0 2 true HR.out | exact HL.out 2 0 0 true HR.out | exact HL.out 1 0 1 true HR.out
  · have h8 : k = 18 ∨ k = 20 ∨ k = 240 ∨ k = 182 ∨ k = 178 ∨ k = 179 ∨ k = 180 ∨ k = 181 := by
      unfold plainOp at hp
      omega
    clear hp hk
    rcases h8 with rfl | rfl | rfl | rfl | rfl | rfl | rfl | rfl
    all_goals
      go_enter Try.func50, Try.ntmps50
      go_wp2_with fail
      exact bodyPost_ret (results_tmp4 rfl _ _ _) rfl ⟨rfl, rfl⟩
end Go.Proofs.Ytbcldlbmbdfejaa
