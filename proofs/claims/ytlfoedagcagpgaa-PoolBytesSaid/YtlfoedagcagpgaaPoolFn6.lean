/- pool: few, and Bytes of a pool that may not be. No condition. -/
import Derived.Test.YtlfoedagcagpgaaPoolFn5
namespace Go.Proofs.Ytlfoedagcagpgaa
open Go.ChangeShapes Go.WideShapes Go.ChangeAt Go.RowKit
/-- Are there few places, and short texts? -/
def fewB (L : List KV) : Bool := (List.range L.length).all (fun (k : Nat) => decide ((kAt L k).s.length ≤ 2000)) && (decide (L.length ≤ 60) || (decide (1024 < L.length) && decide (L.length < 1029)))
theorem fewB_parts {L : List KV} (h : fewB L = true) : (∀ k : Nat, k < L.length → (kAt L k).s.length ≤ 2000) ∧ L.length < 1029 ∧ (L.length ≤ 1024 → L.length ≤ 60) := by
  unfold fewB at h
  simp at h
  refine ⟨h.1, by omega, by omega⟩
theorem fewB_bad {L : List KV} (j : Nat) (hj : j < L.length) (h : 2000 < (kAt L j).s.length) : fewB L = false := by
  unfold fewB
  have : (List.range L.length).all (fun (k : Nat) => decide ((kAt L k).s.length ≤ 2000)) = false := by
    rw [List.all_eq_false]
    exact ⟨j, by simpa using hj, by simp; omega⟩
  rw [this]; rfl
theorem fewB_good {L : List KV} (h : ∀ k : Nat, k < L.length → (kAt L k).s.length ≤ 2000) : fewB L = (decide (L.length ≤ 60) || (decide (1024 < L.length) && decide (L.length < 1029))) := by
  unfold fewB
  have : (List.range L.length).all (fun (k : Nat) => decide ((kAt L k).s.length ≤ 2000)) = true := by
    simp; exact h
  rw [this]; rfl
set_option maxRecDepth 100000 in
set_option maxHeartbeats 4000000 in
theorem few_any (w : World) (a : Option Addr) (n cap : Nat) (L : List KV) (hs : Ks w a n L) (hn : n ≤ maxLen) : Calls Try.prog 7 #[.slice a n cap] w (BoolRet (fewB L) w) := by
  have HS := Lib.hid hs
  have HLn := Lib.hid hs.1
  unfold maxLen at hn
  clear hs
  go_enter Try.func7, Try.ntmps7
  go_wp2_with fail
  go_loopg [7] n (fun gn i wr => ∃ j : Nat, j ≤ n ∧ gn = n - j ∧ i = .int .i64 j ∧ Hid (∀ k : Nat, k < j → (kAt L k).s.length ≤ 2000) ∧ Hid (Below w.heap.size w wr))
  case atStart => exact ⟨0, by omega, by omega, by go_num, Lib.hid (fun k h => by omega), Lib.hid (Below.refl _ _)⟩
  case round =>
    obtain ⟨j, hj, rfl, rfl, HP, HB⟩ := hrel
    by_cases hlt : j < n
    · obtain ⟨b, off, rfl, _, hk⟩ := (HS.out.below HB.out).at j hlt
      obtain ⟨q0, q1, q2, q3, q4⟩ := hk
      have HBD := Lib.hid (fewB_bad (L := L) j (by rw [HLn.out]; exact hlt))
      have HNX := Lib.hid (show (kAt L j).s.length ≤ 2000 → ∀ k : Nat, k < j + 1 → (kAt L k).s.length ≤ 2000 from fun h k hk => by
        rcases Nat.lt_or_ge k j with h1 | h1
        · exact HP.out k h1
        · obtain rfl : k = j := by omega
          exact h)
      have j1 : (j : Int) < n := by omega
      generalize (kAt L j).tag = ct at *
      generalize (kAt L j).a = ca at *
      generalize (kAt L j).b = cb at *
      generalize (kAt L j).n = cn at *
      generalize (kAt L j).s = cs at *
      by_cases hc : 2000 < cs.length
      · have e1 : decide ((2000 : Int) < cs.length) = true := by simp; omega
        have HR := Lib.hid (HBD.out hc)
        go_wp2_with fail
        go_ret
        exact ⟨by rw [HR.out]; rfl, HB.out.alloc HB.out.size _⟩
      · have e1 : decide ((2000 : Int) < cs.length) = false := by simp; omega
        have HQ := Lib.hid (HNX.out (by omega))
        go_wp2_with fail
        go_roundg (n - (j + 1))
        case measure => omega
        case rel => exact ⟨j + 1, by omega, rfl, by go_num, HQ, Lib.hid (HB.out.alloc HB.out.size _)⟩
    · obtain rfl : j = n := by omega
      have HR := Lib.hid (fewB_good (L := L) (by rw [HLn.out]; exact HP.out))
      rw [HLn.out] at HR
      by_cases h6 : j ≤ 60
      · have e1 : decide ((j : Int) ≤ 60) = true := by simp; omega
        rw [decide_eq_true h6] at HR
        go_wp2_with fail
        go_ret
        exact ⟨by rw [HR.out]; rfl, HB.out⟩
      · have e1 : decide ((j : Int) ≤ 60) = false := by simp; omega
        rw [decide_eq_false h6] at HR
        by_cases h7 : 1024 < j
        · have e2 : decide ((1024 : Int) < j) = true := by simp; omega
          rw [decide_eq_true h7] at HR
          by_cases h8 : j < 1029
          · have e3 : decide ((j : Int) < 1029) = true := by simp; omega
            rw [decide_eq_true h8] at HR
            go_wp2_with fail
            go_ret
            exact ⟨by rw [HR.out]; rfl, HB.out⟩
          · have e3 : decide ((j : Int) < 1029) = false := by simp; omega
            rw [decide_eq_false h8] at HR
            go_wp2_with fail
            go_ret
            exact ⟨by rw [HR.out]; rfl, HB.out⟩
        · have e2 : decide ((1024 : Int) < j) = false := by simp; omega
          rw [decide_eq_false h7] at HR
          go_wp2_with fail
          go_ret
          exact ⟨by rw [HR.out]; rfl, HB.out⟩
end Go.Proofs.Ytlfoedagcagpgaa
