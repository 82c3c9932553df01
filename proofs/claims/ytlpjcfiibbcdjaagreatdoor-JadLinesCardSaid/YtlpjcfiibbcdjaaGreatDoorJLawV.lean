/- jad: the walk of JadVersions. No condition. -/
import Derived.Test.YtlpjcfiibbcdjaaGreatDoorJLawP
namespace Go.Proofs.YtlpjcfiibbcdjaaGreatDoor
open Go.ChangeShapes Go.WideShapes Go.ChangeAt Go.RowKit
theorem cmp_neg (x y : Int) : Lib.compareInt y x = -Lib.compareInt x y := by
  unfold Lib.compareInt
  (repeat' split) <;> omega
theorem cmpL_neg : ∀ A B : List Int, cmpL B A = -cmpL A B
  | [], [] => rfl
  | [], _ :: _ => rfl
  | _ :: _, [] => rfl
  | x :: A, y :: B => by
    rw [cmpL, cmpL, cmp_neg x y, cmpL_neg A B]
    by_cases h : Lib.compareInt x y = 0
    · rw [h]; simp
    · rw [if_pos (by omega), if_pos h]
theorem cmpL_three : ∀ A B : List Int, cmpL A B = -1 ∨ cmpL A B = 0 ∨ cmpL A B = 1
  | [], [] => .inr (.inl rfl)
  | [], _ :: _ => .inr (.inl rfl)
  | _ :: _, [] => .inr (.inl rfl)
  | x :: A, y :: B => by
    rw [cmpL]
    split
    · unfold Lib.compareInt
      (repeat' split) <;> simp
    · exact cmpL_three A B
theorem pv_three (s : List UInt8) : ∃ x y z, pvV s = [x, y, z] := by
  have := pvV_len s
  match h : pvV s with
  | [x, y, z] => exact ⟨x, y, z, rfl⟩
  | [] => rw [h] at this; cases this
  | [_] => rw [h] at this; cases this
  | [_, _] => rw [h] at this; cases this
  | _ :: _ :: _ :: _ :: _ => rw [h] at this; simp at this
def Row3 (w : World) (g : Nat) (x y z : Int) : Prop := w.heap[g]? = some (.cells #[.int .i64 x, .int .i64 y, .int .i64 z] 23 (0, 0))
theorem Row3.below {w w' : World} {g : Nat} {x y z : Int} (h : Row3 w g x y z) (hb : Below w.heap.size w w') : Row3 w' g x y z := by
  unfold Row3 at h ⊢
  rw [hb.block g (rowLt h)]; exact h
theorem Row3.c0 {w : World} {g : Nat} {x y z : Int} (h : Row3 w g x y z) : w.cell? ⟨g, 0, none⟩ = some (.int .i64 x) := by rw [cell_of_row _ _ 0 _ _ _ h]; rfl
theorem Row3.c1 {w : World} {g : Nat} {x y z : Int} (h : Row3 w g x y z) : w.cell? ⟨g, 1, none⟩ = some (.int .i64 y) := by rw [cell_of_row _ _ 1 _ _ _ h]; rfl
theorem Row3.c2 {w : World} {g : Nat} {x y z : Int} (h : Row3 w g x y z) : w.cell? ⟨g, 2, none⟩ = some (.int .i64 z) := by rw [cell_of_row _ _ 2 _ _ _ h]; rfl
set_option maxHeartbeats 8000000 in
set_option maxRecDepth 100000 in
theorem walk_JadVersions (s : List UInt8) (a1 a2 a3 b1 b2 b3 : Int) (w : World) (hv : VW w) (hs : s.length ≤ 281474976710656) :
    Calls Tryz.prog 4 #[.string ⟨s.toArray⟩, .agg #[.int .i64 a1, .int .i64 a2, .int .i64 a3], .agg #[.int .i64 b1, .int .i64 b2, .int .i64 b3]] w fun e w' => e = .returned (.bool true) ∧ Below w.heap.size w w' := by
  obtain ⟨x, y, z, hV⟩ := pv_three s
  have hpv := fun (h : s.length ≤ 200) w (hw : VW w) => ParseV_any w s (by omega) hw
  have hrv := fun (h : s.length ≤ 200) w => refParseV_any w s (by omega)
  rw [hV, show (([x, y, z] : List Int).map encI).toArray = #[.int .i64 x, .int .i64 y, .int .i64 z] from rfl] at hpv hrv
  generalize pvE s = er at *
  have HPV := Lib.hid hpv
  have HRV := Lib.hid hrv
  have HV := Lib.hid hv
  have hb : Below w.heap.size w ((w.alloc (.cells #[.int .i64 a1, .int .i64 a2, .int .i64 a3] 23)).alloc (.cells #[.int .i64 b1, .int .i64 b2, .int .i64 b3] 23)) := ((Below.refl _ _).alloc (Nat.le_refl _) _).alloc (by simp) _
  have hra : Row3 ((w.alloc (.cells #[.int .i64 a1, .int .i64 a2, .int .i64 a3] 23)).alloc (.cells #[.int .i64 b1, .int .i64 b2, .int .i64 b3] 23)) w.heap.size a1 a2 a3 := Row3.below (show Row3 (w.alloc (.cells #[.int .i64 a1, .int .i64 a2, .int .i64 a3] 23)) w.heap.size a1 a2 a3 from heap_alloc_last w _) ((Below.refl _ _).alloc (Nat.le_refl _) _)
  have hrb : Row3 ((w.alloc (.cells #[.int .i64 a1, .int .i64 a2, .int .i64 a3] 23)).alloc (.cells #[.int .i64 b1, .int .i64 b2, .int .i64 b3] 23)) (w.heap.size + 1) b1 b2 b3 := by
    have h := heap_alloc_last (w.alloc (.cells #[.int .i64 a1, .int .i64 a2, .int .i64 a3] 23)) (.cells #[.int .i64 b1, .int .i64 b2, .int .i64 b3] 23)
    rw [show (w.alloc (.cells #[.int .i64 a1, .int .i64 a2, .int .i64 a3] 23)).heap.size = w.heap.size + 1 by simp] at h
    exact h
  have HB1 := Lib.hid hb
  have HA1 := Lib.hid hra
  have HBB1 := Lib.hid hrb
  clear hpv hrv hv hb hra hrb hV
  go_enter Tryz.func4, Tryz.ntmps4
  go_upto_region 1 with fail
  generalize (w.alloc (.cells #[.int .i64 a1, .int .i64 a2, .int .i64 a3] 23)).alloc (.cells #[.int .i64 b1, .int .i64 b2, .int .i64 b3] 23) = w1 at *
  go_wp2_with fail
  refine (fixed_any w1 (HV.out.below HB1.out)).mono ?_
  rintro e w2 ⟨rfl, hb2⟩
  have HA2 := Lib.hid (HA1.out.below hb2)
  have HBB2 := Lib.hid (HBB1.out.below hb2)
  have HB2 := Lib.hid (HB1.out.trans (hb2.mono HB1.out.size))
  clear hb2 HA1 HBB1 HB1
  by_cases h200 : 200 < s.length
  · have n1 : (200 : Int) < s.length := by omega
    clear h200
    go_wp2_with fail
    go_ret
    exact ⟨rfl, HB2.out⟩
  have n1 : ¬ (200 : Int) < s.length := by omega
  have HP2 := Lib.hid (HPV.out (by omega) w2 (HV.out.below HB2.out))
  have HRV2 := Lib.hid (HRV.out (by omega))
  clear h200 HPV HRV hs
  go_wp2_with fail
  refine HP2.out.mono ?_
  rintro e w3 ⟨rfl, hb3⟩
  go_upto_region 6 with fail
  have hb4 : Below w2.heap.size w2 (w3.alloc (.cells #[.int .i64 x, .int .i64 y, .int .i64 z] 23)) := hb3.trans (((Below.refl _ _).alloc (Nat.le_refl _) _).mono hb3.size)
  have hv4 : Row3 (w3.alloc (.cells #[.int .i64 x, .int .i64 y, .int .i64 z] 23)) w3.heap.size x y z := heap_alloc_last w3 _
  generalize w3.alloc (.cells #[.int .i64 x, .int .i64 y, .int .i64 z] 23) = w4 at *
  generalize w3.heap.size = gv at *
  have HVV4 := Lib.hid hv4
  have HA4 := Lib.hid (HA2.out.below hb4)
  have HBB4 := Lib.hid (HBB2.out.below hb4)
  have HB4 := Lib.hid (HB2.out.trans (hb4.mono HB2.out.size))
  clear hb3 hb4 hv4 HA2 HBB2 HB2
  go_wp2_with fail
  refine (HRV2.out w4).mono ?_
  rintro e w5 ⟨rfl, hb5⟩
  go_upto_region 7 with fail
  have hb6 : Below w4.heap.size w4 (w5.alloc (.cells #[.int .i64 x, .int .i64 y, .int .i64 z] 23)) := hb5.trans (((Below.refl _ _).alloc (Nat.le_refl _) _).mono hb5.size)
  have hv6 : Row3 (w5.alloc (.cells #[.int .i64 x, .int .i64 y, .int .i64 z] 23)) w5.heap.size x y z := heap_alloc_last w5 _
  generalize w5.alloc (.cells #[.int .i64 x, .int .i64 y, .int .i64 z] 23) = w6 at *
  generalize w5.heap.size = gw at *
  have HB6 := Lib.hid (HB4.out.trans (hb6.mono HB4.out.size))
  have HA6 := Lib.hid (HA4.out.below hb6)
  have HBB6 := Lib.hid (HBB4.out.below hb6)
  have HVV6 := Lib.hid (HVV4.out.below hb6)
  have HWW6 := Lib.hid hv6
  clear hb5 hb6 hv6 HA4 HBB4 HVV4 HB4 HRV2 HP2
  have la : ∀ w', Below w6.heap.size w6 w' → Row3 w' w.heap.size a1 a2 a3 := fun w' h => Row3.below HA6.out h
  have lb : ∀ w', Below w6.heap.size w6 w' → Row3 w' (w.heap.size + 1) b1 b2 b3 := fun w' h => Row3.below HBB6.out h
  have lv : ∀ w', Below w6.heap.size w6 w' → Row3 w' gv x y z := fun w' h => Row3.below HVV6.out h
  have lw : ∀ w', Below w6.heap.size w6 w' → Row3 w' gw x y z := fun w' h => Row3.below HWW6.out h
  have q1 := fun w' h => (la w' h).c0
  have q2 := fun w' h => (la w' h).c1
  have q3 := fun w' h => (la w' h).c2
  have q4 := fun w' h => (lb w' h).c0
  have q5 := fun w' h => (lb w' h).c1
  have q6 := fun w' h => (lb w' h).c2
  have q7 := fun w' h => (lv w' h).c0
  have q8 := fun w' h => (lv w' h).c1
  have q9 := fun w' h => (lv w' h).c2
  have p1 := fun w' h => (lw w' h).c0
  have p2 := fun w' h => (lw w' h).c1
  have p3 := fun w' h => (lw w' h).c2
  clear la lb lv lw
  have HC1 := Lib.hid (fun w => Cmp3_any w a1 a2 a3 b1 b2 b3)
  have HC2 := Lib.hid (fun w => refCmp_any w a1 a2 a3 b1 b2 b3)
  have HC3 := Lib.hid (fun w => Cmp3_any w b1 b2 b3 a1 a2 a3)
  rw [cmpL_neg [a1, a2, a3] [b1, b2, b3]] at HC3
  have he3 := fun w => eq3 w 9998 x y z
  have hvg := ver_guard
  have h3 := cmpL_three [a1, a2, a3] [b1, b2, b3]
  generalize cmpL [a1, a2, a3] [b1, b2, b3] = r at *
  have hr : -1 ≤ r ∧ r ≤ 1 := by omega
  obtain ⟨hr1, hr2⟩ := hr
  clear h3
  refine wp_region_lexS (Below w6.heap.size w6) (.stir [(0, true), (1, true), (2, true), (3, true), (4, true), (5, true), (6, true), (7, true), (8, true), (9, true), (10, true), (11, false), (12, true), (13, true), (14, false), (15, true), (16, true), (17, true), (18, true), (19, true), (20, false), (21, true), (22, true), (23, false), (24, true), (25, true), (26, true)]) (by kernel_rfl) (by kernel_rfl) (fun c a d v w h => by cases d <;> exact h) ?_
  refine lexS_stir (Below w6.heap.size w6) (fun y hy => hy) ((Below.refl _ _).drew) ?_
  iterate 11
    refine stir_step (fun K hK => ?_)
    simp only [stirOp, List.getElem?_toArray, List.getElem?_cons_succ, List.getElem?_cons_zero]
    rw [if_pos (by rfl)]
    apply Exists.intro
    refine ⟨fun w' hS' => ?_, ?_⟩
    · first | (go_simp <;> with_reducible rfl) | (go_simp; go_bits; with_reducible rfl)
    go_simp
    try go_bits
    refine hK _ ?_
    clear hK K
  refine stir_step (fun K hK => ?_)
  simp only [stirOp, List.getElem?_toArray, List.getElem?_cons_succ, List.getElem?_cons_zero]
  rw [if_pos (by rfl)]
  apply Exists.intro
  refine ⟨fun w' hS' => ?_, ?_⟩
  · go_simp
    exact Stirs.call (Calls.mono (HC1.out w') fun e w'' h => ⟨h.1, (fun hb'' => (hS'.trans (hb''.mono hS'.size))) h.2⟩)
  go_simp
  refine hK _ ?_
  clear hK K
  iterate 2
    refine stir_step (fun K hK => ?_)
    simp only [stirOp, List.getElem?_toArray, List.getElem?_cons_succ, List.getElem?_cons_zero]
    rw [if_pos (by rfl)]
    apply Exists.intro
    refine ⟨fun w' hS' => ?_, ?_⟩
    · first | (go_simp <;> with_reducible rfl) | (go_simp; go_bits; with_reducible rfl)
    go_simp
    try go_bits
    refine hK _ ?_
    clear hK K
  refine stir_step (fun K hK => ?_)
  simp only [stirOp, List.getElem?_toArray, List.getElem?_cons_succ, List.getElem?_cons_zero]
  rw [if_pos (by rfl)]
  apply Exists.intro
  refine ⟨fun w' hS' => ?_, ?_⟩
  · go_simp
    exact Stirs.call (Calls.mono (HC2.out w') fun e w'' h => ⟨h.1, (fun hb'' => (hS'.trans (hb''.mono hS'.size))) h.2⟩)
  go_simp
  refine hK _ ?_
  clear hK K
  iterate 5
    refine stir_step (fun K hK => ?_)
    simp only [stirOp, List.getElem?_toArray, List.getElem?_cons_succ, List.getElem?_cons_zero]
    rw [if_pos (by rfl)]
    apply Exists.intro
    refine ⟨fun w' hS' => ?_, ?_⟩
    · first | (go_simp <;> with_reducible rfl) | (go_simp; go_bits; with_reducible rfl)
    go_simp
    try go_bits
    refine hK _ ?_
    clear hK K
  refine stir_step (fun K hK => ?_)
  simp only [stirOp, List.getElem?_toArray, List.getElem?_cons_succ, List.getElem?_cons_zero]
  rw [if_pos (by rfl)]
  apply Exists.intro
  refine ⟨fun w' hS' => ?_, ?_⟩
  · go_simp
    exact Stirs.call (Calls.mono (HC3.out w') fun e w'' h => ⟨h.1, (fun hb'' => (hS'.trans (hb''.mono hS'.size))) h.2⟩)
  go_simp
  refine hK _ ?_
  clear hK K
  iterate 2
    refine stir_step (fun K hK => ?_)
    simp only [stirOp, List.getElem?_toArray, List.getElem?_cons_succ, List.getElem?_cons_zero]
    rw [if_pos (by rfl)]
    apply Exists.intro
    refine ⟨fun w' hS' => ?_, ?_⟩
    · first | (go_simp <;> with_reducible rfl) | (go_simp; go_bits; with_reducible rfl)
    go_simp
    try go_bits
    refine hK _ ?_
    clear hK K
  refine stir_step (fun K hK => ?_)
  simp only [stirOp, List.getElem?_toArray, List.getElem?_cons_succ, List.getElem?_cons_zero]
  rw [if_pos (by rfl)]
  apply Exists.intro
  refine ⟨fun w' hS' => ?_, ?_⟩
  · go_simp
    exact Stirs.call (Calls.mono (HC2.out w') fun e w'' h => ⟨h.1, (fun hb'' => (hS'.trans (hb''.mono hS'.size))) h.2⟩)
  go_simp
  refine hK _ ?_
  clear hK K
  iterate 3
    refine stir_step (fun K hK => ?_)
    simp only [stirOp, List.getElem?_toArray, List.getElem?_cons_succ, List.getElem?_cons_zero]
    rw [if_pos (by rfl)]
    apply Exists.intro
    refine ⟨fun w' hS' => ?_, ?_⟩
    · first | (go_simp <;> with_reducible rfl) | (go_simp; go_bits; with_reducible rfl)
    go_simp
    try go_bits
    refine hK _ ?_
    clear hK K
  refine stir_nil (fun w7 hw7 => ?_)
  have hra7 := Row3.below HA6.out hw7
  have HB7 := Lib.hid (HB6.out.trans (hw7.mono HB6.out.size))
  have HA7 := Lib.hid hra7
  have s1 := hra7.c0
  have s2 := hra7.c1
  have s3 := hra7.c2
  obtain ⟨A, hA⟩ : ∃ A, A = [a1, a2, a3] := ⟨_, rfl⟩
  have hl : A.length = 3 := by rw [hA]; rfl
  have hix := fun w' k h => idx3 w' A hl k h
  rw [show (A.map fun x => Value.int .i64 x).toArray = #[.int .i64 a1, .int .i64 a2, .int .i64 a3] from by rw [hA]; rfl] at hix
  have HIX := Lib.hid hix
  have HL := Lib.hid hl
  have HAE := Lib.hid hA
  clear q1 q2 q3 q4 q5 q6 q7 q8 q9 p1 p2 p3 hw7 hra7 he3 hvg hr1 hr2 HC1 HC2 HC3 HB6 HA6 HBB6 HVV6 HWW6 hix hl hA
  go_wp2_with fail
  go_loopg [56] 3 (fun gn i wr => ∃ k : Nat, k ≤ 3 ∧ gn = 3 - k ∧ i = .int .i64 k ∧ Hid (∀ m (h : m < A.length), m < k → Mil A[m]) ∧ wr = w7)
  case atStart => exact ⟨0, by omega, by omega, by go_num, Lib.hid (fun m h h0 => by omega), rfl⟩
  case round =>
    obtain ⟨k, hk, rfl, rfl, HG, rfl⟩ := hrel
    by_cases hlt : k < 3
    · have k1 : (k : Int) < 3 := by omega
      have hkl : k < A.length := by rw [HL.out]; exact hlt
      have hx := HIX.out wr k hkl
      have HX := Lib.hid (show Mil A[k] → ∀ m (h : m < A.length), m < k + 1 → Mil A[m] from fun h m hm hm2 => by
        rcases Nat.lt_or_ge m k with h1 | h1
        · exact HG.out m hm h1
        · obtain rfl : m = k := by omega
          exact h)
      generalize A[k] = v at *
      clear hkl
      by_cases h0 : v < -1000000
      · go_wp2_with fail
        go_ret
        exact ⟨rfl, HB7.out⟩
      · by_cases h9 : 1000000 < v
        · go_wp2_with fail
          go_ret
          exact ⟨rfl, HB7.out⟩
        · have HM := Lib.hid (HX.out ⟨by omega, by omega⟩)
          go_wp2_with fail
          go_roundg (3 - (k + 1))
          case measure => omega
          case rel => exact ⟨k + 1, by omega, rfl, by go_num, HM, rfl⟩
    · obtain rfl : k = 3 := by omega
      have hm : ∀ v ∈ A, Mil v := fun v hv => by
        obtain ⟨m, hm, rfl⟩ := List.getElem_of_mem hv
        exact HG.out m hm (by rw [HL.out] at hm; exact hm)
      rw [HAE.out] at hm
      have m1 : Mil a1 := hm a1 (by simp)
      have m2 : Mil a2 := hm a2 (by simp)
      have m3 : Mil a3 := hm a3 (by simp)
      have HPV := Lib.hid (fun w (h : VW w) => PrintV_any w a1 a2 a3 m1 m2 m3 h)
      have HRV := Lib.hid (fun w => refPrintV_any w a1 a2 a3 m1 m2 m3)
      generalize vtext a1 a2 a3 = T at *
      have la : ∀ w', Below wr.heap.size wr w' → Row3 w' w.heap.size a1 a2 a3 := fun w' h => Row3.below HA7.out h
      have q1 := fun w' h => (la w' h).c0
      have q2 := fun w' h => (la w' h).c1
      have q3 := fun w' h => (la w' h).c2
      clear la hm m1 m2 m3 s1 s2 s3
      go_upto_region 15 with fail
      refine wp_region_lexS (Below wr.heap.size wr) (.stir [(0, true), (1, false), (2, true), (3, false), (4, true), (5, true)]) (by kernel_rfl) (by kernel_rfl) (fun c a d v w h => by cases d <;> exact h) ?_
      refine lexS_stir (Below wr.heap.size wr) (fun y hy => hy) ((Below.refl _ _).drew) ?_
      iterate 1
        refine stir_step (fun K hK => ?_)
        simp only [stirOp, List.getElem?_toArray, List.getElem?_cons_succ, List.getElem?_cons_zero]
        rw [if_pos (by rfl)]
        apply Exists.intro
        refine ⟨fun w' hS' => ?_, ?_⟩
        · first | (go_simp <;> with_reducible rfl) | (go_simp; go_bits; with_reducible rfl)
        go_simp
        try go_bits
        refine hK _ ?_
        clear hK K
      refine stir_step (fun K hK => ?_)
      simp only [stirOp, List.getElem?_toArray, List.getElem?_cons_succ, List.getElem?_cons_zero]
      rw [if_pos (by rfl)]
      apply Exists.intro
      refine ⟨fun w' hS' => ?_, ?_⟩
      · go_simp
        exact Stirs.call (Calls.mono (HPV.out w' (HV.out.below (HB7.out.trans (hS'.mono HB7.out.size)))) fun e w'' h => ⟨h.1, (fun hb'' => (hS'.trans (hb''.mono hS'.size))) h.2⟩)
      go_simp
      refine hK _ ?_
      clear hK K
      iterate 1
        refine stir_step (fun K hK => ?_)
        simp only [stirOp, List.getElem?_toArray, List.getElem?_cons_succ, List.getElem?_cons_zero]
        rw [if_pos (by rfl)]
        apply Exists.intro
        refine ⟨fun w' hS' => ?_, ?_⟩
        · first | (go_simp <;> with_reducible rfl) | (go_simp; go_bits; with_reducible rfl)
        go_simp
        try go_bits
        refine hK _ ?_
        clear hK K
      refine stir_step (fun K hK => ?_)
      simp only [stirOp, List.getElem?_toArray, List.getElem?_cons_succ, List.getElem?_cons_zero]
      rw [if_pos (by rfl)]
      apply Exists.intro
      refine ⟨fun w' hS' => ?_, ?_⟩
      · go_simp
        exact Stirs.call (Calls.mono (HRV.out w') fun e w'' h => ⟨h.1, (fun hb'' => (hS'.trans (hb''.mono hS'.size))) h.2⟩)
      go_simp
      refine hK _ ?_
      clear hK K
      iterate 2
        refine stir_step (fun K hK => ?_)
        simp only [stirOp, List.getElem?_toArray, List.getElem?_cons_succ, List.getElem?_cons_zero]
        rw [if_pos (by rfl)]
        apply Exists.intro
        refine ⟨fun w' hS' => ?_, ?_⟩
        · first | (go_simp <;> with_reducible rfl) | (go_simp; go_bits; with_reducible rfl)
        go_simp
        try go_bits
        refine hK _ ?_
        clear hK K
      refine stir_nil (fun w8 hw8 => ?_)
      have HB8 := Lib.hid (HB7.out.trans (hw8.mono HB7.out.size))
      clear q1 q2 q3 hw8
      go_wp2_with fail
      go_ret
      exact ⟨rfl, HB8.out⟩
end Go.Proofs.YtlpjcfiibbcdjaaGreatDoor
