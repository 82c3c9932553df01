/- rms.IsName, the document's IsName and IsClass. No condition. -/
import Derived.Test.YtlpjcfiibbcdjaaGreatDoorJWord
namespace Go.Proofs.YtlpjcfiibbcdjaaGreatDoor
open Go.ChangeShapes Go.WideShapes Go.ChangeAt Go.RowKit
def nameB (s : List UInt8) : Bool := (!s.isEmpty && decide (s.length ≤ 16)) && s.all fun c => nameN c.toNat
theorem nameB_bad {s : List UInt8} (k : Nat) (h : k < s.length) (hw : nameN (s[k]).toNat = false) : nameB s = false := by
  unfold nameB
  rw [show (s.all fun c => nameN c.toNat) = false from by rw [List.all_eq_false]; exact ⟨s[k], List.getElem_mem h, by rw [hw]; decide⟩, Bool.and_false]
theorem nameB_good {s : List UInt8} (h : ∀ k (h : k < s.length), nameN (s[k]).toNat = true) : nameB s = (decide (1 ≤ s.length) && decide (s.length ≤ 16)) := by
  unfold nameB
  rw [show (s.all fun c => nameN c.toNat) = true from by
    rw [List.all_eq_true]
    intro c hc
    obtain ⟨k, hk, rfl⟩ := List.getElem_of_mem hc
    exact h k hk, Bool.and_true]
  cases s <;> simp
set_option maxHeartbeats 4000000 in
set_option maxRecDepth 100000 in
theorem refIsName_any (w : World) (s : List UInt8) (hn : s.length ≤ 281474976710656) : Calls Tryz.prog 21 #[.string ⟨s.toArray⟩] w fun e w' => e = .returned (.bool (nameB s)) ∧ w' = w := by
  obtain ⟨n, hN⟩ : ∃ n, n = s.length := ⟨_, rfl⟩
  have HLn := Lib.hid hN
  rw [← hN] at hn
  obtain ⟨r, hr⟩ : ∃ r, r = nameB s := ⟨_, rfl⟩
  rw [← hr]
  have HR := Lib.hid hr
  have hsz : (⟨s.toArray⟩ : ByteArray).size = n := by rw [hN]; simp [ByteArray.size]
  clear hr hN
  go_enter Tryz.func21, Tryz.ntmps21
  go_wp2_with fail
  go_loopg [3] n (fun gn i wr => ∃ j : Nat, j ≤ n ∧ gn = n - j ∧ i = .int .i64 j ∧ Hid (∀ k (h : k < s.length), k < j → nameN (s[k]).toNat = true) ∧ wr = w)
  case atStart => exact ⟨0, by omega, by omega, by go_num, Lib.hid (fun k h h0 => by omega), rfl⟩
  case round =>
    obtain ⟨j, hj, rfl, rfl, HG, rfl⟩ := hrel
    by_cases hlt : j < n
    · have j1 : (j : Int) < n := by omega
      go_upto_region 5 with fail
      have hjs : j < s.length := by rw [← HLn.out]; exact hlt
      generalize hc0 : (({ data := s.toArray } : ByteArray)[j]'(by rw [hsz]; exact hlt)).toNat = c
      have hc1 : (s[j]'hjs).toNat = c := hc0
      have HF := Lib.hid (show nameN c = false → r = false from fun h => by rw [HR.out]; exact nameB_bad j hjs (by rw [hc1]; exact h))
      have HM := Lib.hid (show nameN c = true → ∀ k (h : k < s.length), k < j + 1 → nameN (s[k]).toNat = true from fun h k hk hk2 => by
        rcases Nat.lt_or_ge k j with h1 | h1
        · exact HG.out k hk h1
        · obtain rfl : k = j := by omega
          rw [hc1]; exact h)
      have hc2 : c < 256 := by rw [← hc1]; exact (s[j]'hjs).toNat_lt
      clear hc0 hc1 hjs
      go_wp2_with fail
      all_goals first
        | (go_ret
           exact ⟨ret_boolJ (HF.out (by unfold nameN; rw [Bool.eq_false_iff]; simp only [Bool.or_eq_true, Bool.and_eq_true, decide_eq_true_eq, beq_iff_eq, Bool.not_eq_true', Bool.not_eq_false', decide_eq_false_iff_not, beq_eq_false_iff_ne, ne_eq] at *; omega)).symm, rfl⟩)
        | (go_roundg (n - (j + 1))
           case measure => omega
           case rel => exact ⟨j + 1, by omega, rfl, by go_num, Lib.hid (HM.out (by unfold nameN; simp only [Bool.or_eq_true, Bool.and_eq_true, decide_eq_true_eq, beq_iff_eq, Bool.not_eq_true', Bool.not_eq_false', decide_eq_false_iff_not, beq_eq_false_iff_ne, ne_eq] at *; omega)), rfl⟩)
    · obtain rfl : j = n := by omega
      have HQ := Lib.hid (show r = (decide (1 ≤ j) && decide (j ≤ 16)) from by rw [HR.out, nameB_good (fun k hk => HG.out k hk (by rw [HLn.out]; exact hk)), ← HLn.out])
      by_cases h1 : 1 ≤ j
      · have e1 : decide ((1 : Int) ≤ j) = true := by simp; omega
        have HQ2 := Lib.hid (show r = decide ((j : Int) ≤ 16) by rw [HQ.out, decide_eq_true h1, Bool.true_and]; exact decide_eq_decide.2 (by omega))
        clear h1
        go_wp2_with fail
        go_ret
        exact ⟨ret_boolJ HQ2.out.symm, rfl⟩
      · have e1 : decide ((1 : Int) ≤ j) = false := by simp; omega
        have HQ2 := Lib.hid (show r = false by rw [HQ.out, decide_eq_false h1, Bool.false_and])
        clear h1
        go_wp2_with fail
        go_ret
        exact ⟨ret_boolJ HQ2.out.symm, rfl⟩
/-- The document's way over a class's name. -/
def cls : Nat → List UInt8 → Bool
  | l, [] => decide (l ≠ 47)
  | l, c :: s => (wordN c.toNat || (decide (c.toNat = 47) && decide (l ≠ 47))) && cls c.toNat s
theorem u8_47 (c : UInt8) : c = 47 ↔ c.toNat = 47 := ⟨fun h => by rw [h]; rfl, fun h => UInt8.toNat_inj.1 h⟩
theorem sp_ne (c : UInt8) (s : List UInt8) : ∃ x xs, sp c s = x :: xs := by
  cases s with
  | nil => exact ⟨_, _, rfl⟩
  | cons b l =>
    unfold sp
    split
    · exact ⟨_, _, rfl⟩
    · split
      · exact ⟨_, _, rfl⟩
      · exact ⟨_, _, rfl⟩
theorem wordN_47 {n : Nat} (h : wordN n = true) : n ≠ 47 := by rintro rfl; revert h; decide
theorem cls_sp : ∀ (s : List UInt8) (l : Nat) x xs, sp 47 s = x :: xs → cls l s = ((if l = 47 then wordB x else x.all fun c => wordN c.toNat) && xs.all wordB)
  | [], l, x, xs, h => by
    simp only [sp, List.cons.injEq] at h
    obtain ⟨rfl, rfl⟩ := h
    unfold cls
    by_cases hl : l = 47 <;> simp [hl, wordB]
  | c :: s, l, x, xs, h => by
    obtain ⟨y, ys, e⟩ := sp_ne 47 s
    have ih := cls_sp s c.toNat y ys e
    unfold sp at h
    unfold cls
    rw [ih]
    by_cases hc : c = 47
    · rw [if_pos hc] at h
      obtain ⟨rfl, rfl⟩ := List.cons.inj h
      rw [e]
      have hc2 : c.toNat = 47 := (u8_47 c).1 hc
      have hw : wordN c.toNat = false := by rw [hc2]; decide
      by_cases hl : l = 47 <;> simp [hl, hc2, wordB, show wordN 47 = false from by decide]
    · rw [if_neg hc, e] at h
      obtain ⟨rfl, rfl⟩ := List.cons.inj h
      have hc2 : ¬ c.toNat = 47 := fun h => hc ((u8_47 c).2 h)
      rw [if_neg hc2]
      by_cases hl : l = 47 <;> simp [hl, hc2, wordB, Bool.and_assoc]
theorem cls_class (s : List UInt8) : classB s = (decide (s.length ≤ 64) && cls 47 s) := by
  obtain ⟨y, ys, e⟩ := sp_ne 47 s
  rw [cls_sp s 47 y ys e]
  unfold classB
  rw [e]
  simp
set_option maxHeartbeats 4000000 in
set_option maxRecDepth 100000 in
theorem refIsClass_any (w : World) (s : List UInt8) (hn : s.length ≤ 281474976710656) : Calls Tryz.prog 22 #[.string ⟨s.toArray⟩] w fun e w' => e = .returned (.bool (classB s)) ∧ w' = w := by
  obtain ⟨n, hN⟩ : ∃ n, n = s.length := ⟨_, rfl⟩
  have HLn := Lib.hid hN
  obtain ⟨r, hr⟩ : ∃ r, r = classB s := ⟨_, rfl⟩
  rw [← hr]
  rw [cls_class, ← hN] at hr
  rw [← hN] at hn
  have HR := Lib.hid hr
  have hsz : (⟨s.toArray⟩ : ByteArray).size = n := by rw [hN]; simp [ByteArray.size]
  clear hr hN
  go_enter Tryz.func22, Tryz.ntmps22
  go_wp2_with fail
  go_loopg [3, 4] n (fun gn la i wr => ∃ j l : Nat, j ≤ n ∧ gn = n - j ∧ la = .int .u8 l ∧ l < 256 ∧ i = .int .i64 j ∧ Hid (cls 47 s = cls l (s.drop j)) ∧ wr = w)
  case atStart => exact ⟨0, 47, by omega, by omega, rfl, by omega, by go_num, Lib.hid rfl, rfl⟩
  case round =>
    obtain ⟨j, l, hj, rfl, rfl, hl, rfl, HG, rfl⟩ := hrel
    by_cases hlt : j < n
    · have j1 : (j : Int) < n := by omega
      go_upto_region 6 with fail
      have hjs : j < s.length := by rw [← HLn.out]; exact hlt
      generalize hc0 : (({ data := s.toArray } : ByteArray)[j]'(by rw [hsz]; exact hlt)).toNat = c
      have hc1 : (s[j]'hjs).toNat = c := hc0
      have hcl : cls 47 s = ((wordN c || (decide (c = 47) && decide (l ≠ 47))) && cls c (s.drop (j + 1))) := by
        rw [HG.out, List.drop_eq_getElem_cons hjs, cls, hc1]
      have HF := Lib.hid (show (wordN c || (decide (c = 47) && decide (l ≠ 47))) = false → r = false from fun h => by rw [HR.out, hcl, h, Bool.false_and, Bool.and_false])
      have HM := Lib.hid (show (wordN c || (decide (c = 47) && decide (l ≠ 47))) = true → cls 47 s = cls c (s.drop (j + 1)) from fun h => by rw [hcl, h, Bool.true_and])
      have hc2 : c < 256 := by rw [← hc1]; exact (s[j]'hjs).toNat_lt
      clear hc0 hc1 hjs hcl
      go_wp2_with fail
      all_goals first
        | (go_ret
           exact ⟨ret_boolJ (HF.out (by unfold wordN; rw [Bool.eq_false_iff]; simp only [Bool.or_eq_true, Bool.and_eq_true, decide_eq_true_eq, beq_iff_eq, Bool.not_eq_true', Bool.not_eq_false', decide_eq_false_iff_not, beq_eq_false_iff_ne, bne_iff_ne, bne_eq_false_iff_eq, ne_eq] at *; omega)).symm, rfl⟩)
        | (go_roundg (n - (j + 1))
           case measure => omega
           case rel => exact ⟨j + 1, c, by omega, rfl, by go_num, hc2, by go_num, Lib.hid (HM.out (by unfold wordN; simp only [Bool.or_eq_true, Bool.and_eq_true, decide_eq_true_eq, beq_iff_eq, Bool.not_eq_true', Bool.not_eq_false', decide_eq_false_iff_not, beq_eq_false_iff_ne, bne_iff_ne, bne_eq_false_iff_eq, ne_eq] at *; omega)), rfl⟩)
    · obtain rfl : j = n := by omega
      have HQ := Lib.hid (show r = (decide (j ≤ 64) && decide (l ≠ 47)) from by
        rw [HR.out, HG.out, List.drop_eq_nil_of_le (by rw [← HLn.out]; exact Nat.le_refl _), cls])
      by_cases h1 : j ≤ 64
      · have e1 : decide ((j : Int) ≤ 64) = true := by simp; omega
        have HQ2 := Lib.hid (show r = decide (l ≠ 47) by rw [HQ.out, decide_eq_true h1, Bool.true_and])
        clear h1
        go_wp2_with fail
        go_ret
        refine ⟨ret_boolJ ?_, rfl⟩
        rw [HQ2.out, Bool.eq_iff_iff]
        simp only [bne_iff_ne, decide_eq_true_eq, ne_eq]
        omega
      · have e1 : decide ((j : Int) ≤ 64) = false := by simp; omega
        have HQ2 := Lib.hid (show r = false by rw [HQ.out, decide_eq_false h1, Bool.false_and])
        clear h1
        go_wp2_with fail
        go_ret
        exact ⟨ret_boolJ HQ2.out.symm, rfl⟩
/- rms.IsName: over runes. -/
theorem decode_ascii (s : ByteArray) (i : Nat) (h : (s.get! i).toNat < 128) : Utf8.decode s i = ((s.get! i).toNat, 1) := by
  rw [Lib.decode_at]
  unfold Lib.decodeN
  rw [if_pos h]
theorem decode_high (s : ByteArray) (i : Nat) (h : 128 ≤ (s.get! i).toNat) : 128 ≤ (Utf8.decode s i).1 := by
  rw [Lib.decode_at]
  generalize s.size - i = n
  have hb : ¬ (s.get! i).toNat < 128 := by omega
  unfold Lib.decodeN
  rw [if_neg hb]
  repeat' split
  all_goals first | omega | (simp only []; omega)
theorem get_at (s : List UInt8) (i : Nat) (h : i < s.length) : (⟨s.toArray⟩ : ByteArray).get! i = s[i] := by
  show s.toArray[i]! = _
  simp [h]
theorem nameN_low {n : Nat} (h : nameN n = true) : n < 128 := by
  unfold nameN at h
  simp only [Bool.or_eq_true, Bool.and_eq_true, decide_eq_true_eq] at h
  omega
theorem idx_name (s : List UInt8) : ∀ (f i : Nat), s.length ≤ i + f → i ≤ s.length → decide (Lib.idxFuncFrom (fun x => !nameN x) true ⟨s.toArray⟩ f i < 0) = (s.drop i).all fun c => nameN c.toNat
  | 0, i, h, h2 => by
    have : s.drop i = [] := List.drop_eq_nil_of_le (by omega)
    rw [this]; rfl
  | f + 1, i, h, h2 => by
    unfold Lib.idxFuncFrom
    have hz : (⟨s.toArray⟩ : ByteArray).size = s.length := by simp [ByteArray.size]
    rw [hz]
    by_cases hi : i < s.length
    · rw [if_pos hi, List.drop_eq_getElem_cons hi, List.all_cons]
      have hg := get_at s i hi
      cases hn : nameN (s[i]).toNat
      · have : nameN (Utf8.decode ⟨s.toArray⟩ i).1 = false := by
          by_cases h8 : (s[i]).toNat < 128
          · rw [decode_ascii _ _ (by rw [hg]; exact h8), hg]; exact hn
          · cases hq : nameN (Utf8.decode ⟨s.toArray⟩ i).1 with
            | false => rfl
            | true =>
              have := nameN_low hq
              have := decode_high ⟨s.toArray⟩ i (by rw [hg]; omega)
              omega
        rw [this]
        simp
      · have h8 := nameN_low hn
        rw [decode_ascii _ _ (by rw [hg]; exact h8), hg]
        simp only [hn]
        rw [if_neg (by decide), idx_name s f (i + 1) (by omega) (by omega)]
        simp
    · rw [if_neg hi]
      have : s.drop i = [] := List.drop_eq_nil_of_le (by omega)
      rw [this]; rfl
theorem enter_name1 (args : Array Value) (w : World) : (callFunc 42 args).run Tryz.prog w = .ok (.enter 42 args) w := by kernel_rfl
theorem name1_any (w : World) (n : Nat) (h : n ≤ 1114111) : Calls Tryz.prog 42 #[.int .i32 (n : Int)] w fun e w' => e = .returned (.bool (!nameN n)) ∧ w = w' := by
  go_enter Tryz.func42, Tryz.ntmps42
  go_wp2
  all_goals (go_ret; refine ⟨ret_boolJ ?_, rfl⟩; rw [Bool.eq_iff_iff]; unfold nameN; simp only [Bool.or_eq_true, Bool.and_eq_true, decide_eq_true_eq, beq_iff_eq, Bool.not_eq_true', Bool.not_eq_false', beq_eq_false_iff_ne, ne_eq, Bool.or_eq_false_iff, Bool.and_eq_false_imp, decide_eq_false_iff_not, Bool.false_eq_true, false_iff, true_iff, Bool.not_eq_true, reduceCtorEq] at *; omega)
set_option maxHeartbeats 4000000 in
set_option maxRecDepth 100000 in
theorem IsName_any (w : World) (s : List UInt8) (hn : s.length ≤ 4294967000) : Calls Tryz.prog 25 #[.string ⟨s.toArray⟩] w fun e w' => e = .returned (.bool (nameB s)) ∧ Below w.heap.size w w' := by
  obtain ⟨r, hr⟩ : ∃ r, r = nameB s := ⟨_, rfl⟩
  rw [← hr]
  unfold nameB at hr
  have HI := Lib.hid (Tryz.strings_IndexFunc_grows 42 #[] enter_name1 (fun x => !nameN x) ⟨s.toArray⟩ w (fun W x hx _ => (name1_any W x hx).mono (fun e w' h => ⟨h.1, h.2 ▸ Below.refl _ _⟩)))
  have hi := idx_name s s.length 0 (by omega) (by omega)
  rw [List.drop_zero] at hi
  rw [← hi, show Lib.idxFuncFrom (fun x => !nameN x) true ⟨s.toArray⟩ s.length 0 = Lib.idxFunc (fun x => !nameN x) true ⟨s.toArray⟩ from by unfold Lib.idxFunc; congr 1] at hr
  generalize Lib.idxFunc (fun x => !nameN x) true ⟨s.toArray⟩ = q at *
  have HR := Lib.hid hr
  clear hr hi
  have HB0 := Lib.hid (Below.refl w.heap.size w)
  cases he : s.isEmpty
  · by_cases hl : s.length ≤ 16
    · have hl2 : decide ((s.length : Int) ≤ 16) = true := by simp; omega
      rw [he, decide_eq_true hl] at HR
      clear hl hn
      go_enter Tryz.func25, Tryz.ntmps25
      go_wp2_with fail
      refine HI.out.mono ?_
      rintro e w' ⟨rfl, hb⟩
      have HB1 := Lib.hid hb
      clear hb
      go_wp2_with fail
      go_ret
      exact ⟨ret_boolJ (by rw [HR.out]; rfl), HB1.out⟩
    · have hl2 : decide ((s.length : Int) ≤ 16) = false := by simp; omega
      rw [he, decide_eq_false hl] at HR
      clear hl hn
      go_enter Tryz.func25, Tryz.ntmps25
      go_wp2_with fail
      go_ret
      exact ⟨ret_boolJ (by rw [HR.out]; rfl), HB0.out⟩
  · rw [he] at HR
    clear hn
    go_enter Tryz.func25, Tryz.ntmps25
    go_wp2_with fail
    go_ret
    exact ⟨ret_boolJ (by rw [HR.out]; rfl), HB0.out⟩
end Go.Proofs.YtlpjcfiibbcdjaaGreatDoor
