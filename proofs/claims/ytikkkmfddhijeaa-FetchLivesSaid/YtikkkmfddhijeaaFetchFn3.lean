/- fetch: how many chunks a job has; which jobs are the same; a new job. No condition. -/
import Derived.Test.YtikkkmfddhijeaaFetchFn2
namespace Go.Proofs.Ytikkkmfddhijeaa
open Go.ChangeShapes Go.WideShapes Go.ChangeAt Go.RowKit
/-- How many chunks. -/
def chunksR (s c : Int) (n : Nat) : Int := if jobOk s c n = true then Int.tdiv (s + c - 1) c else 0
set_option maxRecDepth 100000 in
set_option maxHeartbeats 1000000 in
theorem Chunks_any (w : World) (s c : Int) (a : Option Addr) (n cap : Nat) (hs : IntR s) (hc : IntR c) (hn : n ≤ maxLen) :
    Calls Try.prog 17 #[jobV s c a n cap] w fun e w' => e = .returned (.int .i64 (chunksR s c n)) ∧ Below w.heap.size w w' := by
  have HS := Lib.hid hs
  have HC := Lib.hid hc
  have HN := Lib.hid hn
  clear hs hc hn
  by_cases k1 : jobOk s c n = true
  · rw [show chunksR s c n = _ from if_pos k1]
    obtain ⟨j0, j1, j2, j3, j4⟩ := jobOk_bounds k1
    obtain ⟨q, hq⟩ : ∃ q, Int.tdiv (s + c - 1) c = q := ⟨_, rfl⟩
    have hq0 : 0 ≤ q ∧ q ≤ 70000 := by
      rw [← hq, Int.tdiv_eq_ediv_of_nonneg (by omega)]
      refine ⟨Int.ediv_nonneg (by omega) (by omega), ?_⟩
      have := Int.ediv_le_self c (show 0 ≤ s + c - 1 by omega)
      omega
    obtain ⟨q1, q2⟩ := hq0
    rw [hq]
    go_enter Try.func17, Try.ntmps17
    go_wp2_with fail
    refine (Check_any _ s c a n cap HS.out HC.out HN.out).mono ?_
    rw [if_pos k1]
    rintro e w1 ⟨rfl, hb1⟩
    obtain ⟨p0, p1, p2, f0, f1, f2, hlt⟩ := Box3.of (heap_alloc_last w _) hb1
    have HB := Lib.hid (((Below.refl w.heap.size w).alloc (Nat.le_refl _) _).trans (hb1.mono (by simp)))
    clear hb1 k1
    go_wp2_with fail
    go_ret
    exact ⟨rfl, HB.out⟩
  · rw [show chunksR s c n = _ from if_neg k1]
    go_enter Try.func17, Try.ntmps17
    go_wp2_with fail
    refine (Check_any _ s c a n cap HS.out HC.out HN.out).mono ?_
    rw [if_neg k1]
    rintro e w1 ⟨rfl, hb1⟩
    have HB := Lib.hid (((Below.refl w.heap.size w).alloc (Nat.le_refl _) _).trans (hb1.mono (by simp)))
    clear hb1 k1
    go_wp2_with fail
    go_ret
    exact ⟨rfl, HB.out⟩
theorem chunks_step {s c k : Int} (hc : 1 ≤ c) (hk : 0 ≤ k) (h : (k - 1) * c < s) (h2 : s ≤ k * c) : Int.tdiv (s + c - 1) c = k := by
  have hs : 0 ≤ s + c - 1 := by
    rcases Int.lt_or_le 0 k with h0 | h0
    · have : 0 ≤ (k - 1) * c := Int.mul_nonneg (by omega) (by omega)
      omega
    · obtain rfl : k = 0 := by omega
      have : (0 - 1) * c = -c := by simp
      omega
  rw [Int.tdiv_eq_ediv_of_nonneg hs]
  have e : (k - 1) * c = k * c - c := by rw [Int.sub_mul]; simp
  rw [e] at h
  exact Int.le_antisymm (Int.lt_add_one_iff.1 (Int.ediv_lt_of_lt_mul (by omega) (by rw [Int.add_mul]; omega))) (Int.le_ediv_of_mul_le (by omega) (by omega))
set_option maxRecDepth 100000 in
set_option maxHeartbeats 1000000 in
theorem refChunks_any (w : World) (s c : Int) (a : Option Addr) (n cap : Nat) (hs : IntR s) (hc : IntR c) (hn : n ≤ maxLen) :
    Calls Try.prog 18 #[jobV s c a n cap] w fun e w' => e = .returned (.int .i64 (chunksR s c n)) ∧ Below w.heap.size w w' := by
  have HS := Lib.hid hs
  have HC := Lib.hid hc
  have HN := Lib.hid hn
  clear hs hc hn
  by_cases k1 : jobOk s c n = true
  · rw [show chunksR s c n = _ from if_pos k1]
    obtain ⟨j0, j1, j2, j3, j4⟩ := jobOk_bounds k1
    generalize hr : Int.tdiv (s + c - 1) c = r
    have HR := Lib.hid hr
    clear hr
    go_enter Try.func18, Try.ntmps18
    go_wp2_with fail
    refine (refRight_any _ s c a n cap HS.out HC.out HN.out).mono ?_
    rw [k1]
    rintro e w1 ⟨rfl, hb1⟩
    have HX := Lib.hid (Box3.of (heap_alloc_last w _) hb1)
    have HB := Lib.hid (((Below.refl w.heap.size w).alloc (Nat.le_refl _) _).trans (hb1.mono (by simp)))
    clear hb1 k1
    go_wp2_with fail
    go_loopw [3, 4] (fun x y wr => ∃ k : Nat, ∃ m : Int, x = .int .i64 (k : Int) ∧ y = .int .i64 m ∧ wr = w1 ∧ Hid (m = k * c) ∧ 0 ≤ m ∧ (k : Int) ≤ m ∧ m < s + c ∧ Hid (((k : Int) - 1) * c < s)) (fun _ y _ => (s - intOf y).toNat)
    case atStart => exact ⟨0, 0, by go_num, by go_num, rfl, by show (0 : Int) = _; simp, by omega, by omega, by omega, by show ((0 : Nat) - 1 : Int) * c < s; simp; omega⟩
    case round =>
      obtain ⟨k, m, rfl, rfl, rfl, HM, m0, m1, m2, HL⟩ := hrel
      obtain ⟨p0, p1, p2, f0, f1, f2, hlt⟩ := HX.out
      by_cases hlt : m < s
      · go_wp2_with fail
        go_roundw
        case rel => exact ⟨k + 1, m + c, by go_num, by go_num, by trivial, by show m + c = _; rw [HM.out]; push_cast; rw [Int.add_mul]; simp, by omega, by push_cast; omega, by omega, by show ((k + 1 : Nat) - 1 : Int) * c < s; have := HM.out; push_cast; rw [Int.add_sub_cancel, ← this]; omega⟩
        case measure => simp [intOf]; omega
      · go_wp2
        go_ret
        exact ⟨by rw [← HR.out, chunks_step (k := (k : Int)) (by omega) (by omega) HL.out (by have := HM.out; omega)]; rfl, HB.out⟩
  · rw [show chunksR s c n = _ from if_neg k1]
    go_enter Try.func18, Try.ntmps18
    go_wp2_with fail
    refine (refRight_any _ s c a n cap HS.out HC.out HN.out).mono ?_
    rw [Bool.not_eq_true _ |>.mp k1]
    rintro e w1 ⟨rfl, hb1⟩
    have HB := Lib.hid (((Below.refl w.heap.size w).alloc (Nat.le_refl _) _).trans (hb1.mono (by simp)))
    clear hb1 k1
    go_wp2_with fail
    go_ret
    exact ⟨rfl, HB.out⟩
theorem two_first (w : World) (o1 o2 : Obj) : ((w.alloc o1).alloc o2).heap[w.heap.size]? = some o1 := by
  rw [Below.heap_alloc _ _ _ (by simp)]; exact heap_alloc_last w o1
theorem two_last (w : World) (o1 o2 : Obj) : ((w.alloc o1).alloc o2).heap[w.heap.size + 1]? = some o2 := by
  have h := heap_alloc_last (w.alloc o1) o2
  rwa [show (w.alloc o1).heap.size = w.heap.size + 1 by simp] at h
theorem infoJob : (Try.prog.info? 24).map (·.size) = some 3 := by kernel_rfl
theorem infoReply : (Try.prog.info? 27).map (·.size) = some 3 := by kernel_rfl
theorem heap_set3 {w : World} {g : Nat} {cs : Array Value} {t : TypeId} {fr : Nat × Nat} (h : w.heap[g]? = some (.cells cs t fr)) (o : Nat) (v : Value) : (w.setCell ⟨g, o, none⟩ v).heap[g]? = some (.cells (cs.setIfInBounds o v) t fr) := by
  unfold World.setCell
  simp [Array.getElem?_modify, h]
/-- A block of three cells behind which the walk goes. -/
def Blk3 (w : World) (g : Nat) (x y z : Value) (t : TypeId) : Prop := w.heap[g]? = some (.cells #[x, y, z] t)
theorem Blk3.below {w w1 : World} {g : Nat} {x y z : Value} {t : TypeId} (h : Blk3 w g x y z t) (hb : Below w.heap.size w w1) : Blk3 w1 g x y z t := by
  unfold Blk3
  rw [hb.block _ (Array.getElem?_eq_some_iff.1 h).1]; exact h
theorem Blk3.box {w : World} {g : Nat} {x y z : Value} {t : TypeId} (h : Blk3 w g x y z t) : Box3 w w g x y z := Box3.of h (Below.refl _ _)
theorem Blk3.set {w : World} {g : Nat} {x y z x' y' z' : Value} {t : TypeId} (h : Blk3 w g x y z t) : Blk3 (((w.setCell ⟨g, 0, none⟩ x').setCell ⟨g, 1, none⟩ y').setCell ⟨g, 2, none⟩ z') g x' y' z' t :=
  heap_set3 (heap_set3 (heap_set3 h 0 x') 1 y') 2 z'
theorem keep33 (g : Nat) (w : World) (x y z : Value) : Below g w (((w.setCell ⟨g, 0, none⟩ x).setCell ⟨g, 1, none⟩ y).setCell ⟨g, 2, none⟩ z) :=
  (((Below.refl g w).setCell (p := ⟨g, 0, none⟩) (Nat.le_refl g) x).setCell (p := ⟨g, 1, none⟩) (Nat.le_refl g) y).setCell (p := ⟨g, 2, none⟩) (Nat.le_refl g) z
set_option maxRecDepth 100000 in
set_option maxHeartbeats 1000000 in
theorem New_any (w : World) (s c : Int) (hs : IntR s) (hc : IntR c) :
    Calls Try.prog 20 #[.int .i64 s, .int .i64 c] w fun e w' => e = .returned (.tuple #[if jobOk s c 0 = true then jobV s c none 0 0 else jobV 0 0 none 0 0, .int .i64 (if jobOk s c 0 = true then 0 else 1)]) ∧ Below w.heap.size w w' := by
  have HS := Lib.hid hs
  have HC := Lib.hid hc
  clear hs hc
  by_cases k1 : jobOk s c 0 = true
  · rw [if_pos k1, if_pos k1]
    go_enter Try.func20, Try.ntmps20
    go_wp2_with fail
    refine (Check_any _ s c none 0 0 HS.out HC.out (by unfold maxLen; omega)).mono ?_
    rw [if_pos k1]
    rintro e w1 ⟨rfl, hb1⟩
    have K0 := Lib.hid (Blk3.below (w1 := w1) (two_first w (.cells #[.int .i64 0, .int .i64 0, .slice none 0 0] 24) (.cells #[.int .i64 s, .int .i64 c, .slice none 0 0] 24)) hb1)
    have K1 := Lib.hid (Blk3.below (w1 := w1) (two_last w (.cells #[.int .i64 0, .int .i64 0, .slice none 0 0] 24) (.cells #[.int .i64 s, .int .i64 c, .slice none 0 0] 24)) hb1)
    obtain ⟨p0, p1, p2, f0, f1, f2, hlt⟩ := K0.out.box
    obtain ⟨p3, p4, p5, f3, f4, f5, hlt1⟩ := K1.out.box
    have HB := Lib.hid ((((Below.refl w.heap.size w).alloc (Nat.le_refl _) _).alloc (by simp) _).trans (hb1.mono (by simp; omega)))
    clear hb1 k1
    go_wp2_with fail
    exact bodyPost_ret (results_cell_row_tmp rfl _ _ w.heap.size _ _ _ _ rfl K0.out.set Try.underlying24 rfl infoJob) rfl ⟨rfl, HB.out.trans (keep33 _ _ _ _ _)⟩
  · rw [if_neg k1, if_neg k1]
    go_enter Try.func20, Try.ntmps20
    go_wp2_with fail
    refine (Check_any _ s c none 0 0 HS.out HC.out (by unfold maxLen; omega)).mono ?_
    rw [if_neg k1]
    rintro e w1 ⟨rfl, hb1⟩
    have K0 := Lib.hid (Blk3.below (w1 := w1) (two_first w (.cells #[.int .i64 0, .int .i64 0, .slice none 0 0] 24) (.cells #[.int .i64 s, .int .i64 c, .slice none 0 0] 24)) hb1)
    obtain ⟨p0, p1, p2, f0, f1, f2, hlt⟩ := K0.out.box
    have HB := Lib.hid ((((Below.refl w.heap.size w).alloc (Nat.le_refl _) _).alloc (by simp) _).trans (hb1.mono (by simp; omega)))
    clear hb1 k1
    go_wp2_with fail
    exact bodyPost_ret (results_cell_row_tmp rfl _ _ w.heap.size _ _ _ _ rfl K0.out.set Try.underlying24 rfl infoJob) rfl ⟨rfl, HB.out.trans (keep33 _ _ _ _ _)⟩
set_option maxRecDepth 100000 in
set_option maxHeartbeats 1000000 in
theorem refSame_any (w : World) (s1 c1 : Int) (a1 : Option Addr) (n1 cap1 : Nat) (bs1 : List UInt8) (s2 c2 : Int) (a2 : Option Addr) (n2 cap2 : Nat) (bs2 : List UInt8) (h1 : Sl encB w a1 n1 bs1) (h2 : Sl encB w a2 n2 bs2) :
    Calls Try.prog 13 #[jobV s1 c1 a1 n1 cap1, jobV s2 c2 a2 n2 cap2] w fun e w' => e = .returned (.bool (s1 == s2 && (c1 == c2 && bs1 == bs2))) ∧ Below w.heap.size w w' := by
  have hb := ((Below.refl w.heap.size w).alloc (Nat.le_refl _) (.cells #[.int .i64 s1, .int .i64 c1, .slice a1 n1 cap1] 24)).alloc (by simp) (.cells #[.int .i64 s2, .int .i64 c2, .slice a2 n2 cap2] 24)
  have q1 := run_conv (h1.below hb) cap1
  have q2 := run_conv (h2.below hb) cap2
  have HB := Lib.hid hb
  clear hb h1 h2
  by_cases k1 : s1 = s2
  · subst k1
    by_cases k2 : c1 = c2
    · subst k2
      simp only [beq_self_eq_true, Bool.true_and]
      go_enter Try.func13, Try.ntmps13
      go_wp2_with fail
      go_ret
      exact ⟨rfl, HB.out⟩
    · have e2 : (c1 == c2) = false := by simp [k2]
      rw [e2]
      simp only [Bool.false_and, Bool.and_false]
      go_enter Try.func13, Try.ntmps13
      go_wp2_with fail
      go_ret
      exact ⟨rfl, HB.out⟩
  · have e2 : (s1 == s2) = false := by simp [k1]
    rw [e2]
    simp only [Bool.false_and]
    go_enter Try.func13, Try.ntmps13
    go_wp2_with fail
    go_ret
    exact ⟨rfl, HB.out⟩
end Go.Proofs.Ytikkkmfddhijeaa
