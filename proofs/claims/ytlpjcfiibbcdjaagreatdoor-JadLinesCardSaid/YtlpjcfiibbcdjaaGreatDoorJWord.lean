/- desc.IsClass, rms.IsName: the words. No condition. -/
import Derived.Test.YtlpjcfiibbcdjaaGreatDoorJVars
import Derived.Test.YtlpjcfiibbcdjaaGreatDoorContains
import Derived.Test.YtlpjcfiibbcdjaaGreatDoorConv
import Derived.Deep.LoopGhost
import Derived.Deep.DeepCutAuto
import Derived.Lib.DecodeN
namespace Go.Proofs.YtlpjcfiibbcdjaaGreatDoor
open Go.ChangeShapes Go.WideShapes Go.ChangeAt Go.RowKit
theorem ret_boolJ {a b : Bool} (h : a = b) : Ending.returned (.bool a) = Ending.returned (.bool b) := by rw [h]
def wordN (n : Nat) : Bool := (decide (97 ≤ n) && decide (n ≤ 122)) || (decide (65 ≤ n) && decide (n ≤ 90)) || (decide (48 ≤ n) && decide (n ≤ 57)) || decide (n = 95) || decide (n = 36)
def nameN (n : Nat) : Bool := (decide (97 ≤ n) && decide (n ≤ 122)) || (decide (48 ≤ n) && decide (n ≤ 57)) || decide (n = 95) || decide (n = 45)
theorem enter_word1 (args : Array Value) (w : World) : (callFunc 70 args).run Tryz.prog w = .ok (.enter 70 args) w := by kernel_rfl
theorem enter_class1 (args : Array Value) (w : World) : (callFunc 45 args).run Tryz.prog w = .ok (.enter 45 args) w := by kernel_rfl
theorem word1_nat (w : World) (n : Nat) (h : n < 256) : Calls Tryz.prog 70 #[.int .u8 (n : Int)] w fun e w' => e = .returned (.bool (!wordN n)) ∧ w = w' := by
  go_enter Tryz.func70, Tryz.ntmps70
  go_wp2
  all_goals (go_ret; refine ⟨ret_boolJ ?_, rfl⟩; rw [Bool.eq_iff_iff]; unfold wordN; simp only [Bool.or_eq_true, Bool.and_eq_true, decide_eq_true_eq, beq_iff_eq, Bool.not_eq_true', Bool.not_eq_false', beq_eq_false_iff_ne, ne_eq, Bool.or_eq_false_iff, Bool.and_eq_false_imp, decide_eq_false_iff_not, Bool.false_eq_true, false_iff, true_iff, Bool.not_eq_true, reduceCtorEq] at *; omega)
def wordB (s : List UInt8) : Bool := !s.isEmpty && s.all fun c => wordN c.toNat
set_option maxHeartbeats 4000000 in
set_option maxRecDepth 100000 in
theorem word_any (w : World) (s : List UInt8) (hl : s.length ≤ 65536) : Calls Tryz.prog 46 #[.string ⟨s.toArray⟩] w fun e w' => e = .returned (.bool (wordB s)) ∧ Below w.heap.size w w' := by
  obtain ⟨r, hr⟩ : ∃ r, r = wordB s := ⟨_, rfl⟩
  rw [← hr]
  have hall : (s.all fun c => wordN c.toNat) = !(s.any fun c => !wordN c.toNat) := by rw [List.all_eq_not_any_not]
  unfold wordB at hr
  rw [hall] at hr
  have HR := Lib.hid hr
  clear hr hall
  have HB0 := Lib.hid (Below.refl w.heap.size w)
  cases he : s.isEmpty
  · obtain ⟨c, w1, hcv, hs1, hc1, hb1, hz1⟩ := conv_bytes w s
    have HB1 := Lib.hid hb1
    have HCF := Lib.hid (ContainsFunc_any w1 _ s.length c s 70 (fun c => !wordN c.toNat) hs1 hl enter_word1 (fun w c => word1_nat w c.toNat c.toNat_lt))
    rw [he] at HR
    generalize (s.any fun c => !wordN c.toNat) = ok at *
    clear hs1 hb1 hl hc1 hz1
    go_enter Tryz.func46, Tryz.ntmps46
    go_wp2_with fail
    refine HCF.out.mono ?_
    rintro e w' ⟨rfl, rfl⟩
    go_wp2_with fail
    go_ret
    exact ⟨ret_boolJ (by rw [HR.out]; cases ok <;> rfl), HB1.out⟩
  · rw [he] at HR
    go_enter Tryz.func46, Tryz.ntmps46
    go_wp2_with fail
    go_ret
    exact ⟨ret_boolJ (by rw [HR.out]; rfl), HB0.out⟩
set_option maxHeartbeats 4000000 in
set_option maxRecDepth 100000 in
theorem class1_any (w : World) (s : List UInt8) (hl : s.length ≤ 65536) : Calls Tryz.prog 45 #[.string ⟨s.toArray⟩] w fun e w' => e = .returned (.bool (!wordB s)) ∧ Below w.heap.size w w' := by
  have HW := Lib.hid (word_any w s hl)
  generalize wordB s = ok at *
  go_enter Tryz.func45, Tryz.ntmps45
  go_wp2_with fail
  refine HW.out.mono ?_
  rintro e w' ⟨rfl, hb⟩
  have HB := Lib.hid hb
  clear hb
  go_wp2_with fail
  go_ret
  exact ⟨rfl, HB.out⟩
set_option maxRecDepth 100000 in
set_option maxHeartbeats 2000000 in
theorem IndexFuncS_any (w : World) (g cap f : Nat) (xs : List (List UInt8)) (p : List UInt8 → Bool) (hc : ∀ (j : Nat) x, xs[j]? = some x → w.cell? ⟨g, j, none⟩ = some (.string ⟨x.toArray⟩)) (hn : xs.length ≤ 65536)
    (he : ∀ (args : Array Value) (w : World), (callFunc f args).run Tryz.prog w = .ok (.enter f args) w) (hf : ∀ (w : World) x, x ∈ xs → Calls Tryz.prog f #[.string ⟨x.toArray⟩] w fun e w' => e = .returned (.bool (p x)) ∧ Below w.heap.size w w') :
    Calls Tryz.prog 69 #[.slice (some ⟨g, 0, none⟩) xs.length cap, .func (.func f) #[] #[]] w fun e w' => ∃ r : Int, e = .returned (.int .i64 r) ∧ decide (0 ≤ r) = xs.any p ∧ Below w.heap.size w w' := by
  obtain ⟨n, hN⟩ : ∃ n, n = xs.length := ⟨_, rfl⟩
  rw [← hN] at hn ⊢
  have HN := Lib.hid hN
  have HC := Lib.hid hc
  have HF := Lib.hid hf
  clear hc hf hN
  go_enter Tryz.func69, Tryz.ntmps69
  go_wp2_with fail
  go_loopg [8] n (fun gn i wr => ∃ j : Nat, j ≤ n ∧ gn = n - j ∧ i = .int .i64 j ∧ Hid (∀ k (h : k < xs.length), k < j → p xs[k] = false) ∧ Hid (Below w.heap.size w wr))
  case atStart => exact ⟨0, by omega, by omega, by go_num, Lib.hid (fun k h h0 => by omega), Lib.hid (Below.refl _ _)⟩
  case round =>
    obtain ⟨j, hj, rfl, rfl, HG, HB⟩ := hrel
    by_cases hlt : j < n
    · have hjs : j < xs.length := by rw [← HN.out]; exact hlt
      have q0 : wr.cell? ⟨g, j, none⟩ = some (.string ⟨(xs[j]).toArray⟩) := cell_below (HC.out j _ (List.getElem?_eq_getElem hjs)) HB.out
      have HY := Lib.hid (show p xs[j] = true → xs.any p = true from fun h => List.any_eq_true.2 ⟨xs[j], List.getElem_mem hjs, h⟩)
      have HX := Lib.hid (show p xs[j] = false → ∀ k (h : k < xs.length), k < j + 1 → p xs[k] = false from fun h k hk hk2 => by
        rcases Nat.lt_or_ge k j with h1 | h1
        · exact HG.out k hk h1
        · obtain rfl : k = j := by omega
          exact h)
      have HCX := Lib.hid (HF.out wr _ (List.getElem_mem hjs))
      have j1 : (j : Int) < n := by omega
      generalize xs[j] = x at *
      generalize p x = ok at *
      clear hjs
      go_wp2_with fail
      refine HCX.out.mono ?_
      rintro e w' ⟨rfl, hb⟩
      have HB2 := Lib.hid (HB.out.trans (hb.mono HB.out.size))
      clear hb
      cases ok
      · have HM := Lib.hid (HX.out rfl)
        go_wp2_with fail
        go_roundg (n - (j + 1))
        case measure => omega
        case rel => exact ⟨j + 1, by omega, rfl, by go_num, HM, HB2⟩
      · have HR := Lib.hid (HY.out rfl)
        go_wp2_with fail
        go_ret
        exact ⟨_, rfl, by rw [HR.out]; simp, HB2.out⟩
    · obtain rfl : j = n := by omega
      have HR := Lib.hid (show xs.any p = false from by
        rw [List.any_eq_false]
        intro c hc
        obtain ⟨k, hk, rfl⟩ := List.getElem_of_mem hc
        rw [HG.out k hk (by rw [← HN.out] at hk; exact hk)]
        decide)
      go_wp2_with fail
      go_ret
      exact ⟨_, rfl, by rw [HR.out]; rfl, HB.out⟩
set_option maxRecDepth 100000 in
set_option maxHeartbeats 2000000 in
theorem ContainsFuncS_any (w : World) (g cap f : Nat) (xs : List (List UInt8)) (p : List UInt8 → Bool) (hc : ∀ (j : Nat) x, xs[j]? = some x → w.cell? ⟨g, j, none⟩ = some (.string ⟨x.toArray⟩)) (hn : xs.length ≤ 65536)
    (he : ∀ (args : Array Value) (w : World), (callFunc f args).run Tryz.prog w = .ok (.enter f args) w) (hf : ∀ (w : World) x, x ∈ xs → Calls Tryz.prog f #[.string ⟨x.toArray⟩] w fun e w' => e = .returned (.bool (p x)) ∧ Below w.heap.size w w') :
    Calls Tryz.prog 44 #[.slice (some ⟨g, 0, none⟩) xs.length cap, .func (.func f) #[] #[]] w fun e w' => e = .returned (.bool (xs.any p)) ∧ Below w.heap.size w w' := by
  have HI := Lib.hid (IndexFuncS_any w g cap f xs p hc hn he hf)
  generalize xs.any p = ok at *
  generalize xs.length = n at *
  clear hc hf he
  go_enter Tryz.func44, Tryz.ntmps44
  go_wp2_with fail
  refine HI.out.mono ?_
  rintro e w' ⟨r, rfl, hr, hb⟩
  have HB := Lib.hid hb
  clear hb
  go_wp2_with fail
  go_ret
  exact ⟨rfl, HB.out⟩
def classB (s : List UInt8) : Bool := decide (s.length ≤ 64) && (sp 47 s).all wordB
theorem sp_len_mem (c : UInt8) : ∀ (s : List UInt8) x, x ∈ sp c s → x.length ≤ s.length
  | [], x, h => by simp [sp] at h; subst h; simp
  | b :: l, x, h => by
    have ih := sp_len_mem c l
    unfold sp at h
    split at h
    · rcases List.mem_cons.1 h with rfl | h
      · simp
      · have := ih x h; simp; omega
    · split at h
      · simp at h; subst h; simp
      · next y ys e =>
        rw [e] at ih
        rcases List.mem_cons.1 h with rfl | h
        · have := ih y (by simp); simp; omega
        · have := ih x (by simp [h]); simp; omega
theorem sp_length (c : UInt8) (s : List UInt8) : (sp c s).length ≤ s.length + 1 := by
  induction s with
  | nil => simp [sp]
  | cons b l ih =>
    unfold sp
    split
    · simp; omega
    · split
      · simp
      · next e => rw [e] at ih; simp at ih ⊢; omega
set_option maxRecDepth 100000 in
set_option maxHeartbeats 2000000 in
theorem IsClass_any (w : World) (s : List UInt8) (hl : s.length ≤ 4294967000) (hv : VW w) : Calls Tryz.prog 26 #[.string ⟨s.toArray⟩] w fun e w' => e = .returned (.bool (classB s)) ∧ Below w.heap.size w w' := by
  obtain ⟨r, hr⟩ : ∃ r, r = classB s := ⟨_, rfl⟩
  rw [← hr]
  unfold classB at hr
  have hall : (sp 47 s).all wordB = !((sp 47 s).any fun x => !wordB x) := by rw [List.all_eq_not_any_not]
  rw [hall] at hr
  have HR := Lib.hid hr
  clear hr hall
  have hsz : (⟨s.toArray⟩ : ByteArray).size = s.length := by simp [ByteArray.size]
  by_cases h64 : s.length ≤ 64
  · have hl2 : decide ((s.length : Int) ≤ 64) = true := by simp; omega
    have HS := Lib.hid (Split_any w s 47 hl hv)
    have h1 := sp_length 47 s
    have hb1 : Below w.heap.size w (w.alloc (.cells ((sp 47 s).map fun x => Value.string ⟨x.toArray⟩).toArray 9)) := (Below.refl _ _).alloc (Nat.le_refl _) _
    have HB1 := Lib.hid hb1
    have HC := Lib.hid (fun W1 (h : W1 = w.alloc (.cells ((sp 47 s).map fun x => Value.string ⟨x.toArray⟩).toArray 9)) => ContainsFuncS_any W1 w.heap.size (sp 47 s).length 45 (sp 47 s) (fun x => !wordB x) (fun j x hx => by
      subst h
      rw [cell_of_row _ w.heap.size j _ _ _ (heap_alloc_last w _)]
      simp [hx]) (by omega) enter_class1 (fun w x hx => class1_any w x (by have := sp_len_mem 47 s x hx; omega)))
    rw [decide_eq_true h64] at HR
    generalize ((sp 47 s).any fun x => !wordB x) = ok at *
    generalize (sp 47 s) = xs at *
    clear hl hv h64 hb1 h1
    go_enter Tryz.func26, Tryz.ntmps26
    go_wp2_with fail
    refine HS.out.mono ?_
    rintro e w1 ⟨rfl, hw1⟩
    have HC2 := Lib.hid (HC.out w1 hw1)
    rw [← hw1] at HB1
    clear hw1 HC
    go_wp2_with fail
    refine HC2.out.mono ?_
    rintro e w2 ⟨rfl, hb2⟩
    have HB2 := Lib.hid (HB1.out.trans (hb2.mono HB1.out.size))
    clear hb2
    go_wp2_with fail
    go_ret
    exact ⟨ret_boolJ (by rw [HR.out]; cases ok <;> rfl), HB2.out⟩
  · have hl2 : decide ((s.length : Int) ≤ 64) = false := by simp; omega
    have HB0 := Lib.hid (Below.refl w.heap.size w)
    rw [decide_eq_false h64] at HR
    clear hl hv h64
    go_enter Tryz.func26, Tryz.ntmps26
    go_wp2_with fail
    go_ret
    exact ⟨ret_boolJ (by rw [HR.out]; rfl), HB0.out⟩
end Go.Proofs.YtlpjcfiibbcdjaaGreatDoor
