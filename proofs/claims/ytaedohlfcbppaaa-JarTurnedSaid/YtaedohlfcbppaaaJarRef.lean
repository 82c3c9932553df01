/- jar: the reference's IsName and again. No condition. -/
import Derived.Test.YtaedohlfcbppaaaJarName
namespace Go.Proofs.Ytaedohlfcbppaaa
open Go.ChangeShapes Go.WideShapes Go.ChangeAt Go.RowKit
theorem nameOk_bad {s : List UInt8} (k : Nat) (h : k < s.length) (hw : wordB (s[k]).toNat = false) : nameOk s = false := by
  unfold nameOk
  rw [show (s.all fun c => wordB c.toNat) = false from by rw [List.all_eq_false]; exact ⟨s[k], List.getElem_mem h, by rw [hw]; decide⟩, Bool.and_false]
theorem nameOk_good {s : List UInt8} (h : ∀ k (h : k < s.length), wordB (s[k]).toNat = true) : nameOk s = (decide (1 ≤ s.length) && decide (s.length ≤ 64)) := by
  unfold nameOk
  rw [show (s.all fun c => wordB c.toNat) = true from by
    rw [List.all_eq_true]
    intro c hc
    obtain ⟨k, hk, rfl⟩ := List.getElem_of_mem hc
    exact h k hk, Bool.and_true]
  cases s <;> simp
set_option maxHeartbeats 4000000 in
set_option maxRecDepth 100000 in
theorem refIsName_any (w : World) (s : List UInt8) (hn : s.length ≤ 65536) : Calls Try.prog 12 #[.string ⟨s.toArray⟩] w fun e w' => e = .returned (.bool (nameOk s)) ∧ w' = w := by
  obtain ⟨n, hN⟩ : ∃ n, n = s.length := ⟨_, rfl⟩
  have HLn := Lib.hid hN
  rw [← hN] at hn
  obtain ⟨r, hr⟩ : ∃ r, r = nameOk s := ⟨_, rfl⟩
  rw [← hr]
  have HR := Lib.hid hr
  have hsz : (⟨s.toArray⟩ : ByteArray).size = n := by rw [hN]; simp [ByteArray.size]
  clear hr hN
  go_enter Try.func12, Try.ntmps12
  go_wp2_with fail
  go_loopg [3] n (fun gn i wr => ∃ j : Nat, j ≤ n ∧ gn = n - j ∧ i = .int .i64 j ∧ Hid (∀ k (h : k < s.length), k < j → wordB (s[k]).toNat = true) ∧ wr = w)
  case atStart => exact ⟨0, by omega, by omega, by go_num, Lib.hid (fun k h h0 => by omega), rfl⟩
  case round =>
    obtain ⟨j, hj, rfl, rfl, HG, rfl⟩ := hrel
    by_cases hlt : j < n
    · have j1 : (j : Int) < n := by omega
      go_upto_region 5 with fail
      have hjs : j < s.length := by rw [← HLn.out]; exact hlt
      generalize hc0 : (({ data := s.toArray } : ByteArray)[j]'(by rw [hsz]; exact hlt)).toNat = c
      have hc1 : (s[j]'hjs).toNat = c := hc0
      have HF := Lib.hid (show wordB c = false → r = false from fun h => by rw [HR.out]; exact nameOk_bad j hjs (by rw [hc1]; exact h))
      have HM := Lib.hid (show wordB c = true → ∀ k (h : k < s.length), k < j + 1 → wordB (s[k]).toNat = true from fun h k hk hk2 => by
        rcases Nat.lt_or_ge k j with h1 | h1
        · exact HG.out k hk h1
        · obtain rfl : k = j := by omega
          rw [hc1]; exact h)
      have hc2 : c < 256 := by rw [← hc1]; exact (s[j]'hjs).toNat_lt
      clear hc0 hc1 hjs
      go_wp2_with fail
      all_goals first
        | (go_ret
           exact ⟨ret_boolE (HF.out (by unfold wordB; rw [Bool.eq_false_iff]; simp only [Bool.or_eq_true, Bool.and_eq_true, decide_eq_true_eq, beq_iff_eq, Bool.not_eq_true', Bool.not_eq_false', decide_eq_false_iff_not, beq_eq_false_iff_ne, ne_eq] at *; omega)).symm, rfl⟩)
        | (go_roundg (n - (j + 1))
           case measure => omega
           case rel => exact ⟨j + 1, by omega, rfl, by go_num, Lib.hid (HM.out (by unfold wordB; simp only [Bool.or_eq_true, Bool.and_eq_true, decide_eq_true_eq, beq_iff_eq, Bool.not_eq_true', Bool.not_eq_false', decide_eq_false_iff_not, beq_eq_false_iff_ne, ne_eq] at *; omega)), rfl⟩)
    · obtain rfl : j = n := by omega
      have HQ := Lib.hid (show r = (decide (1 ≤ j) && decide (j ≤ 64)) from by rw [HR.out, nameOk_good (fun k hk => HG.out k hk (by rw [HLn.out]; exact hk)), ← HLn.out])
      by_cases h1 : 1 ≤ j
      · have e1 : decide ((1 : Int) ≤ j) = true := by simp; omega
        have HQ2 := Lib.hid (show r = decide ((j : Int) ≤ 64) by rw [HQ.out, decide_eq_true h1, Bool.true_and]; exact decide_eq_decide.2 (by omega))
        clear h1
        go_wp2_with fail
        go_ret
        exact ⟨ret_boolE HQ2.out.symm, rfl⟩
      · have e1 : decide ((1 : Int) ≤ j) = false := by simp; omega
        have HQ2 := Lib.hid (show r = false by rw [HQ.out, decide_eq_false h1, Bool.false_and])
        clear h1
        go_wp2_with fail
        go_ret
        exact ⟨ret_boolE HQ2.out.symm, rfl⟩
end Go.Proofs.Ytaedohlfcbppaaa
