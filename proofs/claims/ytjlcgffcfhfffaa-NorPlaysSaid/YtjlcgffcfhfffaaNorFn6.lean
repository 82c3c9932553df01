/- nor: the reference's there. No condition. -/
import Derived.Test.YtjlcgffcfhfffaaNorFn5
namespace Go.Proofs.Ytjlcgffcfhfffaa
open Go.ChangeShapes Go.WideShapes Go.ChangeAt Go.RowKit
set_option maxRecDepth 100000 in
set_option maxHeartbeats 4000000 in
theorem refThere_any (w : World) (g gb gc cb cc : Nat) (f : Fl) (hf : FlB w g gb gc cb cc f) (p n : Int) (hp : IntR p) (hn : IntR n) :
    Calls Try.prog 34 #[.pointer (some ⟨g, 0, none⟩), .int .i64 p, .int .i64 n] w fun e w' => e = .returned (.bool (decide (0 ≤ p ∧ 0 ≤ n ∧ p ≤ ((f.S * f.Z : Nat) : Int) ∧ n ≤ ((f.S * f.Z : Nat) : Int) - p))) ∧ w = w' := by
  obtain ⟨p1, p2⟩ := hp
  obtain ⟨n1, n2⟩ := hn
  obtain ⟨c0, c1, c2, c3, c4, c5, c6, c7, c8⟩ := hf.cells
  obtain ⟨q1, q2, q3⟩ := hf.caps
  generalize f.S * f.Z = N at c3 q1 q3 ⊢
  clear hf
  by_cases k1 : 0 ≤ p <;> by_cases k2 : 0 ≤ n <;> by_cases k3 : p ≤ (N : Int) <;> by_cases k4 : n ≤ (N : Int) - p <;>
  first
  | (exfalso; omega)
  | (simp only [k1, k2, k3, k4, true_and, and_true, false_and, and_false, decide_true, decide_false]
     go_enter Try.func34, Try.ntmps34
     go_wp2_with fail
     go_ret
     exact ⟨rfl, rfl⟩)
end Go.Proofs.Ytjlcgffcfhfffaa
