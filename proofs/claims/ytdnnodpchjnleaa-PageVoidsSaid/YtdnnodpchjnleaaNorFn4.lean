/- nor: Erases. No condition. -/
import Derived.Test.YtdnnodpchjnleaaNorFn3
namespace Go.Proofs.Ytdnnodpchjnleaa
open Go.ChangeShapes Go.WideShapes Go.ChangeAt Go.RowKit
set_option maxRecDepth 100000 in
set_option maxHeartbeats 4000000 in
theorem Erases_any (w : World) (g gb gc cb cc : Nat) (f : Fl) (hf : FlA w g gb gc cb cc f) (s : Int) (hs : IntR s) :
    Calls Try.prog 29 #[.pointer (some ⟨g, 0, none⟩), .int .i64 s] w fun e w' => e = .returned (.int .i64 (f.count s)) ∧ w = w' := by
  obtain ⟨p1, p2⟩ := hs
  obtain ⟨c0, c1, c2, c3, c4, c5, c6, c7, c8⟩ := hf.cells
  have hS1 := hf.ok.s1
  have hS2 := hf.ok.s2
  have hcl := hf.ok.hc
  by_cases k1 : s < 0
  · have e0 : f.count s = 0 := by unfold Fl.count; rw [if_neg (by omega)]
    rw [e0]
    have HW := Lib.hid (within_any w s 0 ((f.S : Int) - 1))
    rw [show decide ((0 : Int) ≤ s ∧ s ≤ (f.S : Int) - 1) = false by exact decide_eq_false (by omega)] at HW
    clear hf
    go_enter Try.func29, Try.ntmps29
    go_wp2_with fail
    with_reducible refine HW.out.mono ?_
    rintro e w1 ⟨rfl, rfl⟩
    go_wp2_with fail
    go_ret
    exact ⟨rfl, rfl⟩
  · by_cases k2 : s < f.S
    · obtain ⟨i, rfl⟩ : ∃ i : Nat, s = (i : Int) := ⟨s.toNat, by omega⟩
      have hi : i < f.S := by omega
      have e0 : f.count (i : Int) = f.cnt.getD i 0 := by unfold Fl.count; rw [if_pos (by omega)]; rfl
      have hr : w.cell? ⟨gc, i, none⟩ = some (.int .i64 ((f.cnt.getD i 0 : Nat) : Int)) := by
        rw [(hf.rc.cell i hi).1]
        have : i < f.cnt.length := by omega
        simp [List.getD, this, encI]
      rw [e0]
      generalize f.cnt.getD i 0 = x at hr ⊢
      have HW := Lib.hid (within_any w (i : Int) 0 ((f.S : Int) - 1))
      rw [show decide ((0 : Int) ≤ (i : Int) ∧ (i : Int) ≤ (f.S : Int) - 1) = true by exact decide_eq_true (by omega)] at HW
      clear hf
      go_enter Try.func29, Try.ntmps29
      go_wp2_with fail
      with_reducible refine HW.out.mono ?_
      rintro e w1 ⟨rfl, rfl⟩
      go_wp2_with fail
      go_ret
      exact ⟨rfl, rfl⟩
    · have e0 : f.count s = 0 := by unfold Fl.count; rw [if_neg (by omega)]
      rw [e0]
      have HW := Lib.hid (within_any w s 0 ((f.S : Int) - 1))
      rw [show decide ((0 : Int) ≤ s ∧ s ≤ (f.S : Int) - 1) = false by exact decide_eq_false (by omega)] at HW
      clear hf
      go_enter Try.func29, Try.ntmps29
      go_wp2_with fail
      with_reducible refine HW.out.mono ?_
      rintro e w1 ⟨rfl, rfl⟩
      go_wp2_with fail
      go_ret
      exact ⟨rfl, rfl⟩
end Go.Proofs.Ytdnnodpchjnleaa
