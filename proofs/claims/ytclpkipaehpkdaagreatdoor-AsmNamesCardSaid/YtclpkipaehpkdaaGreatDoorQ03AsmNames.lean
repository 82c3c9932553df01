/- asm: own texts, merged (wip/merge2.py). No condition. -/
import Derived.Test.YtclpkipaehpkdaaGreatDoorQ02AsmNames
import Derived.OwnWalk
import Derived.Test.YtclpkipaehpkdaaGreatDoorQ01AsmNames
set_option linter.unusedVariables false
set_option linter.unusedSimpArgs false
namespace Go.Proofs.YtclpkipaehpkdaaGreatDoor
open Go.ChangeShapes Go.WideShapes Go.ChangeAt Go.RowKit
theorem size_str (s : List UInt8) : (⟨s.toArray⟩ : ByteArray).size = s.length := by simp [ByteArray.size]
theorem slice_to (w : World) (s : List UInt8) (n : Nat) (h : n ≤ s.length) (hs : s.length ≤ 281474976710656) :
    (Instr.slice 9 (.string ⟨s.toArray⟩) none (some (.int .i64 (n : Nat))) none).run Tryz.prog w = .ok (.string ⟨(s.take n).toArray⟩) w := by
  rw [run_slice_string_to_if w 9 _ .i64 _ Tryz.underlying9, if_pos (by rw [size_str]; omega)]
  congr 2
  apply ByteArray.ext
  rw [Int.toNat_natCast]
  apply Array.toList_inj.1
  rw [Lib.extract_data]
  simp
theorem slice_from (w : World) (s : List UInt8) (n : Nat) (h : n ≤ s.length) (hs : s.length ≤ 281474976710656) :
    (Instr.slice 9 (.string ⟨s.toArray⟩) (some (.int .i64 (n : Nat))) none none).run Tryz.prog w = .ok (.string ⟨(s.drop n).toArray⟩) w := by
  rw [run_slice_string_from_if w 9 _ .i64 _ Tryz.underlying9, if_pos (by rw [size_str]; omega)]
  congr 2
  apply ByteArray.ext
  rw [Int.toNat_natCast]
  apply Array.toList_inj.1
  rw [Lib.extract_data]
  simp
  rw [size_str, List.take_of_length_le (by rw [List.length_drop]; omega)]
theorem slice_mid (w : World) (s : List UInt8) (n m : Nat) (h : n ≤ m) (hm : m ≤ s.length) (hs : s.length ≤ 281474976710656) :
    (Instr.slice 9 (.string ⟨s.toArray⟩) (some (.int .i64 (n : Nat))) (some (.int .i64 (m : Nat))) none).run Tryz.prog w = .ok (.string ⟨((s.take m).drop n).toArray⟩) w := by
  rw [run_slice_string w 9 _ .i64 .i64 _ _ Tryz.underlying9 (by omega) (by omega) (by rw [size_str]; omega)]
  congr 2
  apply ByteArray.ext
  rw [Int.toNat_natCast, Int.toNat_natCast]
  apply Array.toList_inj.1
  rw [Lib.extract_data]
  simp
  rw [List.drop_take]
theorem cut_len (t : List UInt8) : (Lib.cut t [59]).1.length ≤ t.length := by
  by_cases h : (Lib.cut t [59]).2.2 = true
  · have := congrArg List.length (cut_yes h).1
    simp only [List.length_append, List.length_cons] at this
    omega
  · by_cases h1 : Lib.index t [59] = -1
    · rw [cut_miss 59 t h1]; exact Nat.le_refl _
    · have hg := Lib.index_ge t [59]
      obtain ⟨i, hi⟩ : ∃ i : Nat, Lib.index t [59] = i := ⟨(Lib.index t [59]).toNat, by omega⟩
      rw [cut_hit 59 t i hi] at h
      exact absurd rfl h
set_option maxHeartbeats 4000000 in
set_option maxRecDepth 100000 in
theorem cut_any (w : World) (s : List UInt8) (hl : s.length ≤ 65536) (hv : VW w) : Calls Tryz.prog 51 #[.string ⟨s.toArray⟩] w fun e w' => e = .returned (.string ⟨(s.take (cutL s)).toArray⟩) ∧ Below w.heap.size w w' := by
  obtain ⟨d, hd⟩ : ∃ d, d = dimsS s := ⟨_, rfl⟩
  obtain ⟨B, hB⟩ : ∃ B, B = s.drop d := ⟨_, rfl⟩
  have hdl : d ≤ s.length := by rw [hd]; exact dims_le s
  have hBl : B.length = s.length - d := by rw [hB, List.length_drop]
  have hcut : cutL s = cutN d B := by unfold cutL; rw [hB, hd]
  have HT := Lib.hid (show Calls Tryz.prog 95 #[.string ⟨s.toArray⟩, .string ⟨#[91]⟩] w fun e w' => e = .returned (.string ⟨B.toArray⟩) ∧ w' = w by
    have := Tryz.strings_TrimLeft_one ⟨s.toArray⟩ 91 (by decide) w
    rw [show Lib.trimLeftB (⟨s.toArray⟩ : ByteArray).data.toList 91 = B by unfold Lib.trimLeftB; rw [hB, hd]; exact dims_drop s] at this
    exact this)
  have hto := fun w' n (h : n ≤ s.length) => slice_to w' s n h (by omega)
  have hsub : (s.length : Int) - (B.length : Int) = (d : Int) := by omega
  have hv0 := hv
  have HV := Lib.hid hv
  have HB0 := Lib.hid (Below.refl w.heap.size w)
  have HBL := Lib.hid hBl
  rw [hcut]
  clear hv hcut hd hBl
  cases B with
  | nil =>
    clear hto hB
    go_enter Tryz.func51, Tryz.ntmps51
    go_wp2_with fail
    refine HT.out.mono ?_
    rintro e w1 ⟨rfl, rfl⟩
    go_wp2_with fail
    go_ret
    exact ⟨rfl, HB0.out⟩
  | cons c t =>
    have htl : t.length + 1 = s.length - d := HBL.out
    have hsub2 : (s.length : Int) - ((t.length : Int) + 1) = (d : Int) := by omega
    have hto1 := fun w' => show (Instr.slice 9 (.string ⟨s.toArray⟩) none (some (.int .i64 ((d : Int) + 1))) none).run Tryz.prog w' = .ok (.string ⟨(s.take (d + 1)).toArray⟩) w' from hto w' (d + 1) (by omega)
    have hfr := fun w' => show (Instr.slice 9 (.string ⟨(c :: t).toArray⟩) (some (.int .i64 1)) none none).run Tryz.prog w' = .ok (.string ⟨t.toArray⟩) w' from slice_from w' (c :: t) 1 (by simp) (by simp; omega)
    have htl2 : t.length ≤ 65536 := by omega
    have hix : (({ data := (c :: t).toArray } : ByteArray)[0]'(by rw [size_str]; simp)).toNat = c.toNat := rfl
    have HTO := Lib.hid hto
    have HTL := Lib.hid htl
    rw [cutN_cons]
    have hne : ∀ k : Nat, k < 256 → c ≠ UInt8.ofNat k → ((c.toNat : Int) == (k : Int)) = false := fun k hk h => by
      rw [beq_eq_false_iff_ne]
      intro e
      apply h
      apply UInt8.toNat_inj.1
      rw [UInt8.toNat_ofNat_of_lt' (by simpa using hk)]
      omega
    clear hto hB htl hsub
    by_cases h8 : 8 < d
    · rw [if_pos h8]
      have d8 : (8 : Int) < d := by omega
      clear h8 hne hto1 hfr
      go_enter Tryz.func51, Tryz.ntmps51
      go_wp2_with fail
      refine HT.out.mono ?_
      rintro e w1 ⟨rfl, rfl⟩
      go_wp2_with fail
      go_ret
      exact ⟨rfl, HB0.out⟩
    · rw [if_neg h8]
      have d8 : ¬ (8 : Int) < d := by omega
      have d9 : (d : Int) ≤ 8 := by omega
      have d0 : (0 : Int) ≤ d := by omega
      have hyes : ∀ k : Nat, k < 256 → c = UInt8.ofNat k → ((c.toNat : Int) == (k : Int)) = true := fun k hk h => by
        rw [beq_iff_eq, h, UInt8.toNat_ofNat_of_lt' (by simpa using hk)]
      have hto2 := fun (h : d = 0) w' => show (Instr.slice 9 (.string ⟨s.toArray⟩) none (some (.int .i64 1)) none).run Tryz.prog w' = .ok (.string ⟨(s.take (d + 1)).toArray⟩) w' from by
        have := HTO.out w' (d + 1) (by omega)
        subst h
        exact this
      by_cases h1 : c = 73 ∨ (c = 74 ∧ d = 0) ∨ (c = 66 ∧ 0 < d)
      · rw [if_pos h1]
        by_cases h73 : c = 73
        · have q73 : ((c.toNat : Int) == 73) = true := hyes 73 (by decide) h73
          clear h8 h1 h73 hne hyes hfr hto2
          go_enter Tryz.func51, Tryz.ntmps51
          go_wp2_with fail
          refine HT.out.mono ?_
          rintro e w1 ⟨rfl, rfl⟩
          go_wp2_with fail
          go_ret
          exact ⟨rfl, HB0.out⟩
        · have q73 : ((c.toNat : Int) == 73) = false := hne 73 (by decide) h73
          by_cases h74 : c = 74 ∧ d = 0
          · have q74 : ((c.toNat : Int) == 74) = true := hyes 74 (by decide) h74.1
            have z0 : ((d : Int) == 0) = true := by rw [h74.2]; rfl
            clear h8 h1 h73 h74 hne hyes hfr hto2
            go_enter Tryz.func51, Tryz.ntmps51
            go_wp2_with fail
            refine HT.out.mono ?_
            rintro e w1 ⟨rfl, rfl⟩
            go_wp2_with fail
            go_ret
            exact ⟨rfl, HB0.out⟩
          · have h66 : c = 66 ∧ 0 < d := by
              rcases h1 with h | h | h
              · exact absurd h h73
              · exact absurd h h74
              · exact h
            have q74 : ((c.toNat : Int) == 74) = false := hne 74 (by decide) (by rw [h66.1]; decide)
            have q66 : ((c.toNat : Int) == 66) = true := hyes 66 (by decide) h66.1
            have d1 : (0 : Int) < d := by omega
            clear h8 h1 h73 h74 h66 hne hyes hfr hto2
            go_enter Tryz.func51, Tryz.ntmps51
            go_wp2_with fail
            refine HT.out.mono ?_
            rintro e w1 ⟨rfl, rfl⟩
            go_wp2_with fail
            go_ret
            exact ⟨rfl, HB0.out⟩
      · rw [if_neg h1]
        have q73 : ((c.toNat : Int) == 73) = false := hne 73 (by decide) (fun h => h1 (.inl h))
        have HN74 := Lib.hid (fun (h : ¬ d = 0) => show ((d : Int) == 0) = false by rw [beq_eq_false_iff_ne]; omega)
        by_cases h76 : c = 76
        · rw [if_pos h76]
          have q76 : ((c.toNat : Int) == 76) = true := hyes 76 (by decide) h76
          have q74 : ((c.toNat : Int) == 74) = false := hne 74 (by decide) (by rw [h76]; decide)
          have q66 : ((c.toNat : Int) == 66) = false := hne 66 (by decide) (by rw [h76]; decide)
          have hcut := Cut_any w t 59 (by omega) hv0
          have hnl := cut_len t
          have hyl := fun h => congrArg List.length (@cut_yes t h).1
          obtain ⟨⟨nm, r, ok⟩, hct⟩ : ∃ R, Lib.cut t [59] = R := ⟨_, rfl⟩
          rw [hct] at hcut hnl hyl ⊢
          simp only [List.length_append, List.length_cons] at hcut hnl hyl ⊢
          have HCT := Lib.hid hcut
          have HIC := Lib.hid (fun w h => IsClass_any w nm (by omega) h)
          clear hcut hct
          cases ok with
          | false =>
            rw [if_neg (fun h => absurd h.1 (by decide))]
            clear h8 h1 h76 hne hyes hyl hto2 HIC
            go_enter Tryz.func51, Tryz.ntmps51
            go_wp2_with fail
            refine HT.out.mono ?_
            rintro e w1 ⟨rfl, rfl⟩
            go_wp2_with fail
            refine HCT.out.mono ?_
            rintro e w2 ⟨rfl, hb2, _⟩
            have HB2 := Lib.hid hb2
            clear hb2
            go_wp2_with fail
            go_ret
            exact ⟨rfl, HB2.out⟩
          | true =>
            have hy := hyl rfl
            cases hcb : classB nm with
            | false =>
              rw [hcb] at HIC
              rw [if_neg (fun h => absurd h.2 (by decide))]
              clear h8 h1 h76 hne hyes hyl hto2 hcb hy
              go_enter Tryz.func51, Tryz.ntmps51
              go_wp2_with fail
              refine HT.out.mono ?_
              rintro e w1 ⟨rfl, rfl⟩
              go_wp2_with fail
              refine HCT.out.mono ?_
              rintro e w2 ⟨rfl, hb2, _⟩
              have HB2 := Lib.hid hb2
              clear hb2
              go_wp2_with fail
              refine (HIC.out w2 (HV.out.below HB2.out)).mono ?_
              rintro e w3 ⟨rfl, hb3⟩
              have HB3 := Lib.hid (HB2.out.trans (hb3.mono HB2.out.size))
              clear hb3
              go_wp2_with fail
              go_ret
              exact ⟨rfl, HB3.out⟩
            | true =>
              rw [hcb] at HIC
              rw [if_pos ⟨rfl, rfl⟩]
              have hto3 := fun w' => show (Instr.slice 9 (.string ⟨s.toArray⟩) none (some (.int .i64 ((d : Int) + (nm.length : Int) + 2))) none).run Tryz.prog w' = .ok (.string ⟨(s.take (d + nm.length + 2)).toArray⟩) w' from HTO.out w' (d + nm.length + 2) (by have := HTL.out; omega)
              have b1 : (nm.length : Int) ≤ 65536 := by omega
              clear h8 h1 h76 hne hyes hyl hto2 hto1 hcb hy
              go_enter Tryz.func51, Tryz.ntmps51
              go_wp2_with fail
              refine HT.out.mono ?_
              rintro e w1 ⟨rfl, rfl⟩
              go_wp2_with fail
              refine HCT.out.mono ?_
              rintro e w2 ⟨rfl, hb2, _⟩
              have HB2 := Lib.hid hb2
              clear hb2
              go_wp2_with fail
              refine (HIC.out w2 (HV.out.below HB2.out)).mono ?_
              rintro e w3 ⟨rfl, hb3⟩
              have HB3 := Lib.hid (HB2.out.trans (hb3.mono HB2.out.size))
              clear hb3
              go_wp2_with fail
              go_ret
              exact ⟨rfl, HB3.out⟩
        · rw [if_neg h76]
          have q76 : ((c.toNat : Int) == 76) = false := hne 76 (by decide) h76
          by_cases h74 : c = 74
          · have q74 : ((c.toNat : Int) == 74) = true := hyes 74 (by decide) h74
            have z0 := HN74.out (fun h => h1 (.inr (.inl ⟨h74, h⟩)))
            have q66 : ((c.toNat : Int) == 66) = false := hne 66 (by decide) (by rw [h74]; decide)
            clear h8 h1 h74 h76 hne hyes hfr hto1 hto2
            go_enter Tryz.func51, Tryz.ntmps51
            go_wp2_with fail
            refine HT.out.mono ?_
            rintro e w1 ⟨rfl, rfl⟩
            go_wp2_with fail
            go_ret
            exact ⟨rfl, HB0.out⟩
          · have q74 : ((c.toNat : Int) == 74) = false := hne 74 (by decide) h74
            by_cases h66 : c = 66
            · have q66 : ((c.toNat : Int) == 66) = true := hyes 66 (by decide) h66
              have d1 : ¬ (0 : Int) < d := fun h => h1 (.inr (.inr ⟨h66, by omega⟩))
              clear h8 h1 h74 h76 h66 hne hyes hfr hto1 hto2
              go_enter Tryz.func51, Tryz.ntmps51
              go_wp2_with fail
              refine HT.out.mono ?_
              rintro e w1 ⟨rfl, rfl⟩
              go_wp2_with fail
              go_ret
              exact ⟨rfl, HB0.out⟩
            · have q66 : ((c.toNat : Int) == 66) = false := hne 66 (by decide) h66
              clear h8 h1 h74 h76 h66 hne hyes hfr hto1 hto2
              go_enter Tryz.func51, Tryz.ntmps51
              go_wp2_with fail
              refine HT.out.mono ?_
              rintro e w1 ⟨rfl, rfl⟩
              go_wp2_with fail
              go_ret
              exact ⟨rfl, HB0.out⟩
end Go.Proofs.YtclpkipaehpkdaaGreatDoor

namespace Go.Proofs.YtclpkipaehpkdaaGreatDoor
open Go.ChangeShapes Go.WideShapes Go.ChangeAt Go.RowKit
def encS (x : List UInt8) : Value := .string ⟨x.toArray⟩
theorem eq_take (s : List UInt8) (n : Nat) (h : n ≤ s.length) : (s.take n == s) = decide (n = s.length) := by
  rw [Bool.eq_iff_iff, beq_iff_eq, decide_eq_true_iff]
  constructor
  · intro e
    have := congrArg List.length e
    rw [List.length_take] at this
    omega
  · intro e; rw [e, List.take_length]
set_option maxHeartbeats 4000000 in
set_option maxRecDepth 100000 in
theorem IsType_any (w : World) (s : List UInt8) (hl : s.length ≤ 65536) (hv : VW w) : Calls Tryz.prog 23 #[.string ⟨s.toArray⟩] w fun e w' => e = .returned (.bool (typeB s)) ∧ Below w.heap.size w w' := by
  have HC := Lib.hid (cut_any w s hl hv)
  have HB0 := Lib.hid (Below.refl w.heap.size w)
  have he := eq_take s (cutL s) (cutL_le s)
  cases s with
  | nil =>
    clear he
    go_enter Tryz.func23, Tryz.ntmps23
    go_wp2_with fail
    go_ret
    exact ⟨rfl, HB0.out⟩
  | cons c t =>
    obtain ⟨r, hr⟩ : ∃ r, r = decide (cutL (c :: t) = (c :: t).length) := ⟨_, rfl⟩
    have HT := Lib.hid (show typeB (c :: t) = r by rw [hr]; rfl)
    rw [← hr] at he
    clear hr hl
    generalize (c :: t).take (cutL (c :: t)) = u at *
    go_enter Tryz.func23, Tryz.ntmps23
    go_wp2_with fail
    refine HC.out.mono ?_
    rintro e w1 ⟨rfl, hb1⟩
    have HB1 := Lib.hid hb1
    clear hb1
    go_wp2_with fail
    go_ret
    exact ⟨ret_boolJ HT.out.symm, HB1.out⟩
theorem argsL_stop (n : Nat) (s : List UInt8) (h : s = [] ∨ s.head? = some 41) : argsL n s = some s := by
  unfold argsL; rw [if_pos h]
theorem argsL_full (c : UInt8) (t : List UInt8) (h : ¬ c = 41) : argsL 0 (c :: t) = none := by
  have : ¬ (c :: t = [] ∨ (c :: t).head? = some 41) := by simp [h]
  unfold argsL; rw [if_neg this]
theorem argsL_step (n : Nat) (c : UInt8) (t : List UInt8) (h : ¬ c = 41) : argsL (n + 1) (c :: t) = if cutL (c :: t) = 0 then none else argsL n ((c :: t).drop (cutL (c :: t))) := by
  have : ¬ (c :: t = [] ∨ (c :: t).head? = some 41) := by simp [h]
  rw [argsL, if_neg this]
theorem methB_cons (r : List UInt8) : methB (40 :: r) = tailB (argsL 16 r) := by
  simp [methB]
def MethRet (b : Bool) (w : World) (e : Ending) (w' : World) : Prop := (∃ v1 v2, e = .returned (.tuple #[v1, v2, .int .i64 (if b then 0 else 8)])) ∧ Below w.heap.size w w'
theorem oneS : OneE 86 9 (.string ⟨#[]⟩) 16 := ⟨Tryz.underlying86, by kernel_rfl, rfl⟩
set_option maxHeartbeats 4000000 in
set_option maxRecDepth 100000 in
theorem Method_any (w : World) (s : List UInt8) (hl : s.length ≤ 65536) (hv : VW w) : Calls Tryz.prog 97 #[.string ⟨s.toArray⟩] w (MethRet (methB s) w) := by
  have HV := Lib.hid hv
  have HB0 := Lib.hid (Below.refl w.heap.size w)
  have HP := Lib.hid (fun w (s : List UInt8) => Tryz.strings_CutPrefix ⟨s.toArray⟩ ⟨#[40]⟩ w)
  have HP2 := Lib.hid (fun w (s : List UInt8) => Tryz.strings_CutPrefix ⟨s.toArray⟩ ⟨#[41]⟩ w)
  clear hv
  by_cases h40 : s.head? = some 40
  · obtain ⟨r, rfl⟩ : ∃ r, s = 40 :: r := by
      cases s with
      | nil => simp at h40
      | cons c r => simp at h40; exact ⟨r, by rw [h40]⟩
    rw [methB_cons]
    have hp := HP.out w (40 :: r)
    rw [show Lib.trimPrefix (⟨(40 :: r).toArray⟩ : ByteArray).data.toList (⟨#[40]⟩ : ByteArray).data.toList = r by simp [Lib.trimPrefix, Lib.hasPrefix], show Lib.hasPrefix (⟨(40 :: r).toArray⟩ : ByteArray).data.toList (⟨#[40]⟩ : ByteArray).data.toList = true by simp [Lib.hasPrefix]] at hp
    have HP1 := Lib.hid hp
    have hrl : r.length ≤ 65536 := by simp at hl; omega
    obtain ⟨A0, hA0⟩ : ∃ A0, A0 = argsL 16 r := ⟨_, rfl⟩
    have HA0 := Lib.hid hA0
    rw [← hA0]
    obtain ⟨T, hT⟩ : ∃ T, T = tailB A0 := ⟨_, rfl⟩
    have HT0 := Lib.hid hT
    rw [← hT]
    clear hp HP h40 hl hA0 hT
    go_enter Tryz.func97, Tryz.ntmps97
    go_wp2_with fail
    refine HP1.out.mono ?_
    rintro e w1 ⟨rfl, rfl⟩
    go_wp2_with fail
    go_loopg [5, 7] 17 (fun gn sv av wr => ∃ (k : Nat) (r : List UInt8) (L : List (List UInt8)) (a : Option Addr) (c : Nat), k ≤ 16 ∧ gn = 17 - k ∧ sv = .string ⟨r.toArray⟩ ∧ av = .slice a k c ∧ r.length ≤ 65536 ∧ Hid (argsL (16 - k) r = A0) ∧ Hid (wr.ownsRow w1.heap.size 9 1 (.slice a k c) k (L.map encS)) ∧ Hid (Below w1.heap.size w1 wr))
    case atStart => exact ⟨0, r, [], none, 0, by omega, by omega, rfl, rfl, hrl, Lib.hid HA0.out.symm, Lib.hid (World.ownsRow_nil _ _ _ _), HB0⟩
    case round =>
      obtain ⟨k, r, L, a, c, hk, rfl, rfl, rfl, hrl, HA, HO, HB⟩ := hrel
      cases r with
      | nil =>
        have hT : T = false := by rw [HT0.out, ← HA.out, argsL_stop _ _ (.inl rfl)]; rfl
        subst hT
        have hp := HP2.out wr []
        rw [show Lib.trimPrefix (⟨([] : List UInt8).toArray⟩ : ByteArray).data.toList (⟨#[41]⟩ : ByteArray).data.toList = [] from rfl, show Lib.hasPrefix (⟨([] : List UInt8).toArray⟩ : ByteArray).data.toList (⟨#[41]⟩ : ByteArray).data.toList = false from rfl] at hp
        have HP3 := Lib.hid hp
        clear hp HP2
        go_wp2_with fail
        refine HP3.out.mono ?_
        rintro e w2 ⟨rfl, rfl⟩
        go_wp2_with fail
        go_ret3
        exact ⟨⟨_, _, rfl⟩, HB.out⟩
      | cons d t =>
        have hix : (({ data := (d :: t).toArray } : ByteArray)[0]'(by rw [size_str]; simp)).toNat = d.toNat := rfl
        by_cases h41 : d = 41
        · have q41 : ((d.toNat : Int) == 41) = true := by rw [h41]; rfl
          have hA : A0 = some (d :: t) := by rw [← HA.out, argsL_stop _ _ (.inr (by rw [h41]; rfl))]
          have hp := HP2.out wr (d :: t)
          rw [show Lib.trimPrefix (⟨(d :: t).toArray⟩ : ByteArray).data.toList (⟨#[41]⟩ : ByteArray).data.toList = t by subst h41; simp [Lib.trimPrefix, Lib.hasPrefix], show Lib.hasPrefix (⟨(d :: t).toArray⟩ : ByteArray).data.toList (⟨#[41]⟩ : ByteArray).data.toList = true by subst h41; simp [Lib.hasPrefix]] at hp
          have HP3 := Lib.hid hp
          have HTB := Lib.hid (show T = (decide (t = [86]) || typeB t) by rw [HT0.out, hA, h41]; simp [tailB])
          have htl : t.length ≤ 65536 := by simp at hrl; omega
          have HTY := Lib.hid (fun w h => IsType_any w t htl h)
          obtain ⟨y, hy⟩ : ∃ y, y = typeB t := ⟨_, rfl⟩
          rw [← hy] at HTB HTY
          clear hp HP2 hA h41 hrl hy
          by_cases h86 : t = [86]
          · have hT : T = true := by rw [HTB.out, decide_eq_true h86, Bool.true_or]
            subst hT h86
            go_wp2_with fail
            refine HP3.out.mono ?_
            rintro e w2 ⟨rfl, rfl⟩
            go_wp2_with fail
            go_ret3
            exact ⟨⟨_, _, rfl⟩, HB.out⟩
          · have hT : T = y := by rw [HTB.out, decide_eq_false h86, Bool.false_or]
            subst hT
            have he : (t == [86]) = false := by simpa using h86
            clear h86
            go_wp2_with fail
            refine HP3.out.mono ?_
            rintro e w2 ⟨rfl, rfl⟩
            go_wp2_with fail
            refine (HTY.out w2 (HV.out.below HB.out)).mono ?_
            rintro e w3 ⟨rfl, hb3⟩
            have HB3 := Lib.hid (HB.out.trans (hb3.mono HB.out.size))
            clear hb3
            cases T
            · go_wp2_with fail
              go_ret3
              exact ⟨⟨_, _, rfl⟩, HB3.out⟩
            · go_wp2_with fail
              go_ret3
              exact ⟨⟨_, _, rfl⟩, HB3.out⟩
        · have q41 : ((d.toNat : Int) == 41) = false := by
            rw [beq_eq_false_iff_ne]
            intro h
            exact h41 (UInt8.toNat_inj.1 (by rw [show (41 : UInt8).toNat = 41 from rfl]; omega))
          obtain ⟨m, hm⟩ : ∃ m, m = cutL (d :: t) := ⟨_, rfl⟩
          have hml := cutL_le (d :: t)
          have HCU := Lib.hid (cut_any wr (d :: t) hrl (HV.out.below HB.out))
          rw [← hm] at HCU hml
          by_cases h0 : m = 0
          · have hT : T = false := by
              rw [HT0.out, ← HA.out]
              by_cases hk6 : k = 16
              · subst hk6; rw [argsL_full d t h41]; rfl
              · rw [show 16 - k = (15 - k) + 1 by omega, argsL_step _ d t h41, ← hm, if_pos h0]; rfl
            subst hT
            rw [h0, List.take_zero] at HCU
            clear HA hm hml h0 h41 HP2
            go_wp2_with fail
            refine HCU.out.mono ?_
            rintro e w2 ⟨rfl, hb2⟩
            have HB2 := Lib.hid (HB.out.trans (hb2.mono HB.out.size))
            clear hb2
            go_wp2_with fail
            go_ret3
            exact ⟨⟨_, _, rfl⟩, HB2.out⟩
          · obtain ⟨m1, hm1⟩ : ∃ m1, m = m1 + 1 := ⟨m - 1, by omega⟩
            have HU := Lib.hid (show (d :: t).take m = d :: t.take m1 by rw [hm1, List.take_succ_cons])
            rw [HU.out] at HCU
            have HUL := Lib.hid (show (t.take m1).length = m1 by rw [List.length_take]; simp at hml; omega)
            by_cases hk6 : k = 16
            · have hT : T = false := by
                rw [HT0.out, ← HA.out]
                subst hk6; rw [argsL_full d t h41]; rfl
              subst hT
              have k16 : ((k : Int) == 16) = true := by rw [hk6]; rfl
              generalize t.take m1 = u at *
              clear HA hm hml h0 h41 HP2 hk6 hk
              go_wp2_with fail
              refine HCU.out.mono ?_
              rintro e w2 ⟨rfl, hb2⟩
              have HB2 := Lib.hid (HB.out.trans (hb2.mono HB.out.size))
              clear hb2
              go_wp2_with fail
              go_ret3
              exact ⟨⟨_, _, rfl⟩, HB2.out⟩
            · have k16 : ((k : Int) == 16) = false := by rw [beq_eq_false_iff_ne]; omega
              have HA2 := Lib.hid (show argsL (16 - (k + 1)) ((d :: t).drop m) = A0 by
                rw [← HA.out, show 16 - k = (16 - (k + 1)) + 1 by omega, argsL_step _ d t h41, ← hm, if_neg h0])
              have hfr := fun w' => show (Instr.slice 9 (.string ⟨(d :: t).toArray⟩) (some (.int .i64 ((m1 : Int) + 1))) none none).run Tryz.prog w' = .ok (.string ⟨((d :: t).drop m).toArray⟩) w' from by
                have := slice_from w' (d :: t) m hml (by omega)
                subst hm1
                exact this
              have HDL := Lib.hid (show ((d :: t).drop m).length ≤ 65536 by rw [List.length_drop]; omega)
              have HOD := Lib.hid (fun W => (own_below (w' := W) HO.out))
              have hul := HUL.out
              generalize (d :: t).drop m = r2 at *
              generalize t.take m1 = u at *
              subst hul
              have k15 : k ≤ 15 := by omega
              have hk0 : (0 : Int) ≤ (u.length : Int) + 1 := by omega
              clear hm hml h0 h41 HP2 hk6 hk hm1 HA HU HUL
              go_wp2_with fail
              refine HCU.out.mono ?_
              rintro e w2 ⟨rfl, hb2⟩
              have HB2 := Lib.hid (HB.out.trans (hb2.mono HB.out.size))
              have HO2 := Lib.hid (HOD.out w2 hb2)
              clear hb2 HOD
              go_wp2_with fail
              go_region_law ((refine step_app_lit oneS (by rfl) _ _ (by rfl) w1.heap.size _ _ _ (by rfl) HO2.out.drew _ 1 _ (by rfl) (by rfl) (by rfl) (by omega) (by unfold maxLen; omega) HB2.out.size ?_; intro v3 w3 hown3 hg3 hb3))
              obtain ⟨a3, c3, rfl, _, _⟩ := Sl.ofOwn (enc := encS) (xs := L ++ [d :: u]) (by rw [List.map_append]; exact hown3)
              have HO3 := Lib.hid (show w3.ownsRow w1.heap.size 9 1 (.slice a3 (k + 1) c3) (k + 1) ((L ++ [d :: u]).map encS) by rw [List.map_append]; exact hown3)
              have HB3 := Lib.hid (HB2.out.trans (((Below.refl _ _).drew).trans hb3))
              clear hown3 hg3 hb3
              go_wp2_with fail
              go_roundg (17 - (k + 1))
              case measure => omega
              case rel => exact ⟨k + 1, r2, L ++ [d :: u], a3, c3, by omega, rfl, rfl, rfl, HDL.out, HA2, HO3, HB3⟩
  · have hT : methB s = false := by
      cases s with
      | nil => rfl
      | cons c r =>
        have : ¬ c = 40 := fun h => h40 (by rw [h]; rfl)
        simp [methB, this]
    rw [hT]
    have hp := HP.out w s
    rw [show Lib.hasPrefix (⟨s.toArray⟩ : ByteArray).data.toList (⟨#[40]⟩ : ByteArray).data.toList = false by
      cases s with
      | nil => rfl
      | cons c r =>
        have : ¬ c = 40 := fun h => h40 (by rw [h]; rfl)
        simp [Lib.hasPrefix, List.isPrefixOf, Ne.symm this]] at hp
    have HP1 := Lib.hid hp
    clear hp HP hT h40
    go_enter Tryz.func97, Tryz.ntmps97
    go_wp2_with fail
    refine HP1.out.mono ?_
    rintro e w1 ⟨rfl, rfl⟩
    go_wp2_with fail
    go_ret3
    exact ⟨⟨_, _, rfl⟩, HB0.out⟩
end Go.Proofs.YtclpkipaehpkdaaGreatDoor

namespace Go.Proofs.YtclpkipaehpkdaaGreatDoor
open Go.ChangeShapes Go.WideShapes Go.ChangeAt Go.RowKit
def objS (c : List UInt8) : List UInt8 := 76 :: (c ++ [59])
def semOk (t : List UInt8) : Bool := decide (2 ≤ t.length) && (decide (t.head? = some 76) && decide (t.getLast? = some 59))
def semV (t : List UInt8) : List UInt8 := if semOk t then (t.take (t.length - 1)).drop 1 else []
theorem pre_one (s : List UInt8) (c : UInt8) : Lib.hasPrefix s [c] = decide (s.head? = some c) := by
  cases s with
  | nil => rfl
  | cons d t =>
    rw [Bool.eq_iff_iff]
    simp [Lib.hasPrefix, List.isPrefixOf]
    exact eq_comm
theorem suf_one (s : List UInt8) (c : UInt8) : Lib.hasSuffix s [c] = decide (s.getLast? = some c) := by
  rw [Bool.eq_iff_iff, decide_eq_true_iff, Lib.hasSuffix, List.isSuffixOf_iff_suffix]
  constructor
  · rintro ⟨q, rfl⟩; simp
  · intro h
    obtain ⟨q, hq⟩ := List.getLast?_eq_some_iff.1 h
    exact ⟨q, hq.symm⟩
set_option maxHeartbeats 4000000 in
set_option maxRecDepth 100000 in
theorem Object_any (w : World) (s : List UInt8) (hl : s.length ≤ 65536) : Calls Tryz.prog 105 #[.string ⟨s.toArray⟩] w fun e w' => e = .returned (.string ⟨(objS s).toArray⟩) ∧ w' = w := by
  have n1 : ¬ 9223372036854775807 < 1 + s.length := by omega
  have n2 : ¬ 9223372036854775807 < 1 + s.length + 1 := by omega
  have he : ((⟨#[76]⟩ : ByteArray) ++ (⟨s.toArray⟩ : ByteArray)) ++ (⟨#[59]⟩ : ByteArray) = ⟨(objS s).toArray⟩ := by
    rw [show (⟨#[76]⟩ : ByteArray) = ⟨[76].toArray⟩ from rfl, show (⟨#[59]⟩ : ByteArray) = ⟨[59].toArray⟩ from rfl, str_app, str_app]
    rfl
  have HE := Lib.hid he
  clear he
  go_enter Tryz.func105, Tryz.ntmps105
  go_wp2_with fail
  go_ret
  exact ⟨by rw [← HE.out]; rfl, rfl⟩
set_option maxHeartbeats 4000000 in
set_option maxRecDepth 100000 in
theorem isArray_any (w : World) (s : List UInt8) (hl : s.length ≤ 65536) (hv : VW w) : Calls Tryz.prog 49 #[.string ⟨s.toArray⟩] w fun e w' => e = .returned (.bool (arrayB s)) ∧ Below w.heap.size w w' := by
  have hp := Tryz.strings_HasPrefix ⟨s.toArray⟩ ⟨#[91]⟩ w
  rw [show Lib.hasPrefix (⟨s.toArray⟩ : ByteArray).data.toList (⟨#[91]⟩ : ByteArray).data.toList = decide (s.head? = some 91) from pre_one s 91] at hp
  obtain ⟨y, hy⟩ : ∃ y, y = decide (s.head? = some 91) := ⟨_, rfl⟩
  have HR := Lib.hid (show arrayB s = (y && typeB s) by rw [hy]; rfl)
  rw [← hy] at hp
  have HP := Lib.hid hp
  have HT := Lib.hid (IsType_any w s hl hv)
  have HB0 := Lib.hid (Below.refl w.heap.size w)
  generalize arrayB s = R at *
  generalize typeB s = T at *
  clear hp hy hv
  go_enter Tryz.func49, Tryz.ntmps49
  go_wp2_with fail
  refine HP.out.mono ?_
  rintro e w1 ⟨rfl, rfl⟩
  cases y
  · go_wp2_with fail
    go_ret
    exact ⟨ret_boolJ (by rw [HR.out]; rfl), HB0.out⟩
  · go_wp2_with fail
    refine HT.out.mono ?_
    rintro e w2 ⟨rfl, hb2⟩
    have HB2 := Lib.hid hb2
    clear hb2
    go_wp2_with fail
    go_ret
    exact ⟨ret_boolJ (by rw [HR.out]; rfl), HB2.out⟩
set_option maxHeartbeats 4000000 in
set_option maxRecDepth 100000 in
theorem isMethod_any (w : World) (s : List UInt8) (hl : s.length ≤ 65536) (hv : VW w) : Calls Tryz.prog 52 #[.string ⟨s.toArray⟩] w fun e w' => e = .returned (.bool (methB s)) ∧ Below w.heap.size w w' := by
  have HM := Lib.hid (Method_any w s hl hv)
  generalize methB s = T at *
  clear hv hl
  cases T
  · go_enter Tryz.func52, Tryz.ntmps52
    go_wp2_with fail
    refine HM.out.mono ?_
    rintro e w1 ⟨⟨v1, v2, rfl⟩, hb⟩
    simp only [Bool.false_eq_true, if_false]
    go_wp2_with fail
    go_ret
    exact ⟨rfl, hb⟩
  · go_enter Tryz.func52, Tryz.ntmps52
    go_wp2_with fail
    refine HM.out.mono ?_
    rintro e w1 ⟨⟨v1, v2, rfl⟩, hb⟩
    simp only [if_true]
    go_wp2_with fail
    go_ret
    exact ⟨rfl, hb⟩
theorem index_mem : ∀ (s : List UInt8), decide (0 ≤ Lib.indexByte s 47) = s.contains 47
  | [] => rfl
  | c :: s => by
    have ih := index_mem s
    have hg := Lib.indexByte_ge s 47
    rw [List.contains_cons, ← ih, Lib.indexByte]
    by_cases h : c = 47
    · subst h; simp
    · have h1 : (c == 47) = false := by simpa using h
      have h2 : ((47 : UInt8) == c) = false := by simpa using Ne.symm h
      rw [h1, h2, Bool.false_or]
      simp only [Bool.false_eq_true, if_false]
      by_cases h3 : Lib.indexByte s 47 = -1
      · rw [h3]; rfl
      · rw [if_neg (by simpa using h3)]
        apply decide_eq_decide.2
        omega
set_option maxHeartbeats 4000000 in
set_option maxRecDepth 100000 in
theorem IsName_any (w : World) (s : List UInt8) (hl : s.length ≤ 65536) (hv : VW w) : Calls Tryz.prog 17 #[.string ⟨s.toArray⟩] w fun e w' => e = .returned (.bool (memB s)) ∧ Below w.heap.size w w' := by
  have hp := Tryz.strings_Contains_one ⟨s.toArray⟩ 47 w
  rw [show decide (0 ≤ Lib.indexByte (⟨s.toArray⟩ : ByteArray).data.toList 47) = s.contains 47 from index_mem s] at hp
  obtain ⟨y, hy⟩ : ∃ y, y = s.contains 47 := ⟨_, rfl⟩
  have HR := Lib.hid (show memB s = (!y && classB s) by rw [hy]; rfl)
  rw [← hy] at hp
  have HP := Lib.hid hp
  have HT := Lib.hid (IsClass_any w s (by omega) hv)
  have HB0 := Lib.hid (Below.refl w.heap.size w)
  generalize memB s = R at *
  generalize classB s = T at *
  clear hp hy hv
  go_enter Tryz.func17, Tryz.ntmps17
  go_wp2_with fail
  refine HP.out.mono ?_
  rintro e w1 ⟨rfl, rfl⟩
  cases y
  · go_wp2_with fail
    refine HT.out.mono ?_
    rintro e w2 ⟨rfl, hb2⟩
    have HB2 := Lib.hid hb2
    clear hb2
    go_wp2_with fail
    go_ret
    exact ⟨ret_boolJ (by rw [HR.out]; rfl), HB2.out⟩
  · go_wp2_with fail
    go_ret
    exact ⟨ret_boolJ (by rw [HR.out]; rfl), HB0.out⟩
set_option maxHeartbeats 4000000 in
set_option maxRecDepth 100000 in
theorem ClassOf_any (w : World) (s : List UInt8) (hl : s.length ≤ 65536) : Calls Tryz.prog 124 #[.string ⟨s.toArray⟩] w fun e w' => e = .returned (.tuple #[.string ⟨(semV s).toArray⟩, .bool (semOk s)]) ∧ w' = w := by
  have hp := fun w => Tryz.strings_HasPrefix ⟨s.toArray⟩ ⟨#[76]⟩ w
  rw [show Lib.hasPrefix (⟨s.toArray⟩ : ByteArray).data.toList (⟨#[76]⟩ : ByteArray).data.toList = decide (s.head? = some 76) from pre_one s 76] at hp
  have hq := fun w => Tryz.strings_HasSuffix ⟨s.toArray⟩ ⟨#[59]⟩ w (by rw [size_str]; omega)
  rw [show Lib.hasSuffix (⟨s.toArray⟩ : ByteArray).data.toList (⟨#[59]⟩ : ByteArray).data.toList = decide (s.getLast? = some 59) from suf_one s 59] at hq
  have HK : semOk s = (decide (2 ≤ s.length) && (decide (s.head? = some 76) && decide (s.getLast? = some 59))) := rfl
  generalize decide (s.head? = some 76) = p1 at *
  generalize decide (s.getLast? = some 59) = p2 at *
  have HP := Lib.hid hp
  have HQ := Lib.hid hq
  by_cases h2 : s.length < 2
  · have n2 : (s.length : Int) < 2 := by omega
    have hk : semOk s = false := by rw [HK, decide_eq_false (by omega)]; rfl
    have hvv : semV s = [] := by unfold semV; rw [hk]; rfl
    rw [hk, hvv]
    clear hp hq HK h2 hk hvv
    go_enter Tryz.func124, Tryz.ntmps124
    go_wp2_with fail
    go_ret2
    exact ⟨rfl, rfl⟩
  · have n2 : ¬ (s.length : Int) < 2 := by omega
    rw [decide_eq_true (by omega), Bool.true_and] at HK
    have hmd := fun w' => show (Instr.slice 9 (.string ⟨s.toArray⟩) (some (.int .i64 1)) (some (.int .i64 ((s.length : Int) - 1))) none).run Tryz.prog w' = .ok (.string ⟨((s.take (s.length - 1)).drop 1).toArray⟩) w' from by
      have := slice_mid w' s 1 (s.length - 1) (by omega) (by omega) (by omega)
      rw [show (((s.length - 1 : Nat)) : Int) = (s.length : Int) - 1 by omega] at this
      exact this
    have hvv : semV s = if semOk s then (s.take (s.length - 1)).drop 1 else [] := rfl
    generalize semV s = V at *
    generalize semOk s = B at *
    generalize (s.take (s.length - 1)).drop 1 = M at *
    clear hp hq h2
    cases p1
    · have hB : B = false := HK
      subst hB
      simp only [Bool.false_eq_true, if_false] at hvv
      subst hvv
      clear HK
      go_enter Tryz.func124, Tryz.ntmps124
      go_wp2_with fail
      refine (HP.out w).mono ?_
      rintro e w1 ⟨rfl, rfl⟩
      go_wp2_with fail
      go_ret2
      exact ⟨rfl, rfl⟩
    · cases p2
      · have hB : B = false := HK
        subst hB
        simp only [Bool.false_eq_true, if_false] at hvv
        subst hvv
        clear HK
        go_enter Tryz.func124, Tryz.ntmps124
        go_wp2_with fail
        refine (HP.out w).mono ?_
        rintro e w1 ⟨rfl, rfl⟩
        go_wp2_with fail
        refine (HQ.out w1).mono ?_
        rintro e w2 ⟨rfl, rfl⟩
        go_wp2_with fail
        go_ret2
        exact ⟨rfl, rfl⟩
      · have hB : B = true := HK
        subst hB
        simp only [if_true] at hvv
        subst hvv
        clear HK
        go_enter Tryz.func124, Tryz.ntmps124
        go_wp2_with fail
        refine (HP.out w).mono ?_
        rintro e w1 ⟨rfl, rfl⟩
        go_wp2_with fail
        refine (HQ.out w1).mono ?_
        rintro e w2 ⟨rfl, rfl⟩
        go_wp2_with fail
        go_ret2
        exact ⟨rfl, rfl⟩
end Go.Proofs.YtclpkipaehpkdaaGreatDoor

namespace Go.Proofs.YtclpkipaehpkdaaGreatDoor
open Go.ChangeShapes Go.WideShapes Go.ChangeAt Go.RowKit
theorem idx_str (w : World) (s : List UInt8) (i : Nat) (h : i < s.length) : (Instr.index 9 (.string ⟨s.toArray⟩) (.int .i64 (i : Nat))).run Tryz.prog w = .ok (.int .u8 (s[i].toNat : Int)) w := by
  have h1 : (i : Int) < s.length := by omega
  have h2 : (⟨s.toArray⟩ : ByteArray).size = s.length := size_str s
  have h3 : (({ data := s.toArray } : ByteArray)[i]'(by rw [size_str]; exact h)).toNat = s[i].toNat := rfl
  simp [go_sem, Instr.index, Tryz.underlying9, h, h1, h2, h3]
end Go.Proofs.YtclpkipaehpkdaaGreatDoor

namespace Go.Proofs.YtclpkipaehpkdaaGreatDoor
open Go.ChangeShapes Go.WideShapes Go.ChangeAt Go.RowKit
def Ss {α : Type} (z : Nat) (enc : α → List Value) (w : World) (a : Option Addr) (n : Nat) (xs : List α) : Prop :=
  xs.length = n ∧ (0 < n → ∃ b off, a = some ⟨b, off, none⟩ ∧ b < w.heap.size ∧ ∀ i (_ : i < xs.length) j, j < z → w.cell? ⟨b, off + i * z + j, none⟩ = (enc xs[i])[j]?)
theorem addr_add (b o k : Nat) : (⟨b, o, none⟩ : Addr).add k = ⟨b, o + k, none⟩ := by unfold Addr.add; split <;> simp_all
theorem cellS_below {w w' : World} (h : Below w.heap.size w w') {a : Addr} {v : Value} (hc : w.cell? a = some v) : w'.cell? a = some v := by
  have hlt : a.block < w.heap.size := by
    unfold World.cell? at hc
    cases hb : w.heap[a.block]? with
    | none => rw [hb] at hc; simp at hc
    | some o => exact (Array.getElem?_eq_some_iff.1 hb).1
  rw [h.cell hlt]
  exact hc
section
variable {α : Type} {z : Nat} {enc : α → List Value}
theorem Ss.below {w w' : World} {a : Option Addr} {n : Nat} {xs : List α} (h : Ss z enc w a n xs) (hb : Below w.heap.size w w') : Ss z enc w' a n xs := by
  refine ⟨h.1, fun hn => ?_⟩
  obtain ⟨b, off, ha, hlt, hc⟩ := h.2 hn
  exact ⟨b, off, ha, Nat.lt_of_lt_of_le hlt hb.size, fun i hi j hj => by rw [hb.cell (by simpa using hlt)]; exact hc i hi j hj⟩
theorem Ss.nil (w : World) (a : Option Addr) : Ss z enc w a 0 [] := ⟨rfl, fun h => by omega⟩
theorem flat_len (hz : ∀ x, (enc x).length = z) (xs : List α) : (xs.flatMap enc).length = xs.length * z := by
  induction xs with
  | nil => simp
  | cons x xs ih => rw [List.flatMap_cons, List.length_append, hz, ih, List.length_cons, Nat.add_mul, Nat.one_mul, Nat.add_comm]
theorem flat_at (hz : ∀ x, (enc x).length = z) (xs : List α) (i : Nat) (hi : i < xs.length) (j : Nat) (hj : j < z) : (xs.flatMap enc)[i * z + j]? = (enc xs[i])[j]? := by
  induction xs generalizing i with
  | nil => simp at hi
  | cons x xs ih =>
    rw [List.flatMap_cons]
    cases i with
    | zero => rw [Nat.zero_mul, Nat.zero_add, List.getElem?_append_left (by rw [hz]; exact hj)]; simp
    | succ i =>
      rw [List.getElem?_append_right (by rw [hz, Nat.add_mul]; omega), hz, show (i + 1) * z + j - z = i * z + j by rw [Nat.add_mul]; omega, ih i (by simpa using hi)]
      simp
theorem Ss.ofOwn (hz : ∀ x, (enc x).length = z) (z0 : 0 < z) {w : World} {base : Nat} {e : TypeId} {v : Value} {n : Nat} {xs : List α} (h : w.ownsRow base e z v n (xs.flatMap enc)) : ∃ a cap, v = .slice a n cap ∧ Ss z enc w a n xs ∧ n ≤ cap := by
  have hl : xs.length = n := by
    have h1 := h.1
    rw [flat_len hz] at h1
    exact Nat.eq_of_mul_eq_mul_right z0 h1
  rcases h.2 with ⟨rfl, rfl⟩ | ⟨g, cap, cur, rfl, hb, hg, hnc, _, _, ht⟩
  · exact ⟨none, 0, rfl, ⟨hl, fun h => by omega⟩, Nat.le_refl _⟩
  · refine ⟨_, cap, rfl, ⟨hl, fun _ => ⟨g, 0, rfl, (Array.getElem?_eq_some_iff.1 hg).1, fun i hi j hj => ?_⟩⟩, hnc⟩
    have hlt : i * z + j < n * z := by
      have : (i + 1) * z ≤ n * z := Nat.mul_le_mul_right _ (by omega)
      rw [Nat.add_mul] at this
      omega
    rw [Nat.zero_add, h.cellAt (i * z + j) hlt, flat_at hz xs i hi j hj]
theorem Ss.take {w : World} {a : Option Addr} {n j : Nat} {xs : List α} (h : Ss z enc w a n xs) (hj : j ≤ n) : Ss z enc w a j (xs.take j) := by
  refine ⟨by simp [h.1]; omega, fun hn => ?_⟩
  obtain ⟨b, off, ha, hlt, hc⟩ := h.2 (by omega)
  refine ⟨b, off, ha, hlt, fun i hi k hk => ?_⟩
  rw [hc i (by simp at hi; omega) k hk]
  simp
end
def StE (t e : TypeId) (z0 : Value) (z bytes : Nat) : Prop := Tryz.prog.underlying t = some (.slice e) ∧ (Tryz.prog.info? e).map (fun i => (i.zero, i.size, i.bytes)) = some (some z0, z, bytes) ∧ z0.cells.size = z
theorem wpList_appS {t e : TypeId} {z0 : Value} {z bytes : Nat} (hO : StE t e z0 z bytes) {w : World} {ops : Array Oper} {rest : List Oper} {o : Oper} {a : Act} {Q : Exit → Act → World → Prop} (hgd : Region.wanted o (yielded ops a.tmps) = true) (s x : Operand) (tx : TypeId)
    (ho : o.op = .call { callee := .builtin .append, args := #[s, x], argTypes := #[t, tx] })
    (base : Nat) (v : Value) (n : Nat) (xs : List Value) (hv : a.eval s = v) (hown : w.ownsRow base e z v n xs)
    (y : Value) (m : Nat) (news : List Value) (hy : a.eval x = y) (hs : Src Tryz.prog z tx y m news w) (hlen : (n + m) * bytes ≤ 140737488355328) (hm : n + m ≤ maxLen) (hbase : base ≤ w.heap.size)
    (h : ∀ v' w', w'.ownsRow base e z v' (n + m) (xs ++ news) → w.grownBy w' v.ownBlock → Below base w w' → wpList Tryz.prog ops Q rest (a.put o.dst v') w') : wpList Tryz.prog ops Q (o :: rest) a w := by
  obtain ⟨ht, hinf, hz⟩ := hO
  obtain ⟨i0, hi, hz0, hz1, hz2⟩ := info_parts hinf
  exact wpList_append_src hgd s x t tx ho base e i0 z0 z bytes ht hi hz0 hz1 hz2 hz v n xs hv hown y m news hy hs hm hlen hbase (fun v' w' h1 h2 _ => h v' w' h1 h2 (below_app (Below.refl _ _) hbase hown h2))
theorem Src.litS {P : Program} {w : World} {z m c : Nat} {C : Array Value} {e tx e' : TypeId} (hm : C.size = m * z) (hone : C.toList.all (·.oneCell') = true) (hk : P.underlying tx = some (.slice e')) :
    Src P z tx (.slice (some ⟨w.heap.size, 0, none⟩) m c) m C.toList (w.alloc (.cells C e)) := by
  refine Src.ofSlice _ hk ⟨w.heap.size, 0, none⟩ m c _ (by simpa using hm) (fun j u hu => ?_) (fun u hu => List.all_eq_true.1 hone u hu)
  rw [addr_add, Nat.zero_add, cell_of_row _ w.heap.size j _ _ _ (heap_alloc_last w _)]
  simpa using hu
theorem wpList_appS_lit {t e : TypeId} {z0 : Value} {z bytes : Nat} (hO : StE t e z0 z bytes) {w : World} {ops : Array Oper} {rest : List Oper} {o : Oper} {a : Act} {Q : Exit → Act → World → Prop} (hgd : Region.wanted o (yielded ops a.tmps) = true) (s x : Operand)
    (ho : o.op = .call { callee := .builtin .append, args := #[s, x], argTypes := #[t, t] })
    (base : Nat) (v : Value) (n : Nat) (xs : List Value) (hv : a.eval s = v) (hown : w.ownsRow base e z v n xs)
    (C : Array Value) (m c sz : Nat) (hy : a.eval x = .slice (some ⟨sz, 0, none⟩) m c) (hsz : w.heap.size = sz) (hC : C.size = m * z) (hone : C.toList.all (·.oneCell') = true) (hlen : (n + m) * bytes ≤ 140737488355328) (hm : n + m ≤ maxLen) (hbase : base ≤ w.heap.size)
    (h : ∀ v' w', w'.ownsRow base e z v' (n + m) (xs ++ C.toList) → (w.alloc (.cells C e)).grownBy w' v.ownBlock → Below base w w' → wpList Tryz.prog ops Q rest (a.put o.dst v') w') : wpList Tryz.prog ops Q (o :: rest) a (w.alloc (.cells C e)) := by
  subst hsz
  exact wpList_appS hO hgd s x t ho base v n xs hv (hown.alloc _) _ m _ hy (Src.litS hC hone hO.1) hlen hm (by simp; omega)
    (fun v' w' h1 h2 h3 => h v' w' h1 h2 (((Below.refl _ _).alloc hbase _).trans h3))
theorem wpList_app_lit2 {t e : TypeId} {z : Value} {bytes : Nat} (hO : OneE t e z bytes) {w : World} {ops : Array Oper} {rest : List Oper} {o : Oper} {a : Act} {Q : Exit → Act → World → Prop} (hgd : Region.wanted o (yielded ops a.tmps) = true) (s x : Operand)
    (ho : o.op = .call { callee := .builtin .append, args := #[s, x], argTypes := #[t, t] })
    (base : Nat) (v : Value) (n : Nat) (xs : List Value) (hv : a.eval s = v) (hown : w.ownsRow base e 1 v n xs)
    (C : Array Value) (m c sz : Nat) (hy : a.eval x = .slice (some ⟨sz, 0, none⟩) m c) (hsz : w.heap.size = sz) (hC : C.size = m) (hone : C.toList.all (·.oneCell') = true) (hlen : (n + m) * bytes ≤ 140737488355328) (hm : n + m ≤ maxLen) (hbase : base ≤ w.heap.size)
    (h : ∀ v' w', w'.ownsRow base e 1 v' (n + m) (xs ++ C.toList) → (w.alloc (.cells C e)).grownBy w' v.ownBlock → Below base w w' → wpList Tryz.prog ops Q rest (a.put o.dst v') w') : wpList Tryz.prog ops Q (o :: rest) a (w.alloc (.cells C e)) := by
  subst hsz
  exact wpList_app_lit hO hgd s x ho base v n xs hv hown C m c hy hC hone hlen hm hbase h
end Go.Proofs.YtclpkipaehpkdaaGreatDoor

