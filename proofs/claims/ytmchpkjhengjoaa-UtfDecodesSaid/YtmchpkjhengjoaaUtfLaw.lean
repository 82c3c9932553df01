/- The laws of layer 10: the walks. No condition. -/
import Derived.Test.YtmchpkjhengjoaaUtfFn3
import Derived.Test.YtmchpkjhengjoaaRegion
namespace Go.Proofs.Ytmchpkjhengjoaa
open Go.ChangeShapes Go.WideShapes Go.ChangeAt Go.RowKit
attribute [local go_sem ↓] Go.wp_at_zero Go.wp_at_succ

theorem dec_fixed1 : decodeB [97, 192, 128] = some [97, 0] := by decide +kernel
theorem dec_fixed2 : decodeB [0] = none := by decide +kernel
theorem enc_fixed : encodeB [0] = [192, 128] := by decide +kernel

set_option maxRecDepth 100000 in
set_option maxHeartbeats 2000000 in
theorem fixed10_any (w : World) : Calls Try.prog 6 #[] w fun e w' => e = .returned (.bool true) ∧ Below w.heap.size w w' := by
  have kc := fun (w : World) (C : Array Value) (n c : Nat) => Lib.run_convert_bytes_const (P := Try.prog) w 24 5 C n c Try.underlying24 Try.underlying5
  go_enter Try.func6, Try.ntmps6
  go_wp2_with fail
  have hb0 : Below w.heap.size w (w.alloc (Obj.cells (([97, 192, 128] : List UInt8).map encB).toArray 5 (3, 4))) := (Below.refl _ _).alloc (Nat.le_refl _) _
  have hB := Sl.lit (enc := encB) (n := 3) (heap_alloc_last w (Obj.cells (([97, 192, 128] : List UInt8).map encB).toArray 5 (3, 4))) rfl rfl
  have H0 := Lib.hid hb0
  have HB := Lib.hid hB
  clear hb0 hB kc
  refine (Decode_any _ _ _ _ [97, 192, 128] HB.out (by decide) (by decide)).mono ?_
  intro e w1 hr
  rw [dec_fixed1] at hr
  obtain ⟨v, m, rfl, hown, hb⟩ := hr
  obtain ⟨a1, cap1, rfl, hsl, _⟩ := Sl.ofOwn hown
  have hm := hsl.1
  simp only [List.length_cons, List.length_nil] at hm
  subst hm
  have HS1 := Lib.hid hsl
  have HB1 := Lib.hid (H0.out.trans (hb.mono H0.out.size))
  clear hown hb hsl
  go_wp2_with fail
  have H2 := Lib.hid (HB1.out.alloc HB1.out.size (Obj.cells (([0] : List UInt8).map encB).toArray 5))
  have hB := Sl.lit (enc := encB) (n := 1) (heap_alloc_last w1 (Obj.cells (([0] : List UInt8).map encB).toArray 5)) rfl rfl
  have HB2 := Lib.hid hB
  clear hB
  refine (Decode_any _ _ _ _ [0] HB2.out (by decide) (by decide)).mono ?_
  intro e w2 hr
  rw [dec_fixed2] at hr
  obtain ⟨rfl, hb⟩ := hr
  have H3 := Lib.hid (H2.out.trans (hb.mono H2.out.size))
  have HS2 := Lib.hid (HS1.out.below ((((Below.refl _ _).alloc (Nat.le_refl _) _).trans (hb.mono (by simp)))))
  clear hb
  go_wp2_with fail
  have H4 := Lib.hid (H3.out.alloc H3.out.size (Obj.cells (([0] : List UInt16).map encU).toArray 22))
  have hB := Sl.lit (enc := encU) (n := 1) (heap_alloc_last w2 (Obj.cells (([0] : List UInt16).map encU).toArray 22)) rfl rfl
  have HB3 := Lib.hid hB
  clear hB
  refine (Encode_any _ _ _ _ [0] HB3.out (by decide)).mono ?_
  rintro e w3 ⟨v3, m3, rfl, hown3, hb3⟩
  rw [enc_fixed] at hown3
  obtain ⟨a3, cap3, rfl, hsl3, _⟩ := Sl.ofOwn hown3
  have hcv := run_conv hsl3 cap3
  have H5 := Lib.hid (H4.out.trans (hb3.mono H4.out.size))
  have hS := HS2.out.below ((((Below.refl _ _).alloc (Nat.le_refl _) _).trans (hb3.mono (by simp))))
  clear hown3 hsl3 hb3
  obtain ⟨b, off, rfl, _, hc⟩ := hS.2 (by decide)
  have hc0 : w3.cell? ⟨b, off, none⟩ = some (.int .u16 97) := hc 0 (by decide)
  have hc1 : w3.cell? ⟨b, off + 1, none⟩ = some (.int .u16 0) := hc 1 (by decide)
  clear hc hS HS2 HS1
  go_wp2
  go_ret
  exact ⟨rfl, H5.out⟩

theorem Us.ofRow {w : World} {a : Option Addr} {len cap : Nat} {zs : List Int} (h : IsRow .u16 w a len cap zs) : ∃ us, Sl encU w a len us ∧ len ≤ maxLen := by
  rcases h with ⟨rfl, rfl, rfl, rfl⟩ | ⟨x, rfl, hl, hm, hz, hc, hwf⟩
  · exact ⟨[], ⟨rfl, fun h => by omega⟩, by decide⟩
  · refine ⟨(zs.take len).map fun n => UInt16.ofNat n.toNat, ⟨by simp; omega, fun hn => ?_⟩, by omega⟩
    obtain ⟨b, off, spot⟩ := x
    have h0 := hc 0 (by omega)
    have hspot : spot = none := by simpa [Addr.add] using World.cell?_spot h0
    subst hspot
    refine ⟨b, off, rfl, World.block_lt_of_cell? w _ h0, fun i hi => ?_⟩
    have hi' : i < len := by simpa using (by simp at hi; omega : i < len)
    have hadd : (⟨b, off, none⟩ : Addr).add i = ⟨b, off + i, none⟩ := by unfold Addr.add; split <;> simp_all
    have hci := hc i (by omega)
    rw [hadd] at hci
    rw [hci]
    have hzi : zs.getD i 0 = zs[i]'(by omega) := by simp [List.getD, List.getElem?_eq_getElem (by omega : i < zs.length)]
    rw [hzi]
    congr 1
    simp only [List.getElem_map, List.getElem_take]
    have hb := bounds_u16 (hwf _ (List.getElem_mem (by omega : i < zs.length)))
    unfold encU
    congr 1
    rw [UInt16.toNat_ofNat_of_lt' (by show (zs[i]).toNat < 65536; omega)]
    omega

set_option maxRecDepth 100000 in
set_option maxHeartbeats 1000000 in
theorem walk_UtfEncodes (a : Option Addr) (n cap : Nat) (z : List Int) (w : World) (h0 : IsRow .u16 w a n cap z) :
    Calls Try.prog 4 #[.slice a n cap] w fun e w' => e = .returned (.bool true) ∧ Below w.heap.size w w' := by
  obtain ⟨us, hU, hm⟩ := Us.ofRow h0
  unfold maxLen at hm
  have HU := Lib.hid hU
  clear h0 hU
  go_enter Try.func4, Try.ntmps4
  go_wp2_with fail
  refine (fixed10_any _).mono ?_
  rintro e w1 ⟨rfl, hb1⟩
  by_cases hn : 1500 < n
  · go_wp2_with fail
    go_ret
    exact ⟨rfl, hb1⟩
  have H1 := Lib.hid hb1
  clear hb1
  go_wp2_with fail
  refine (Encode_any _ _ _ _ us (HU.out.below H1.out) (by omega)).mono ?_
  rintro e w2 ⟨v2, m, rfl, hown2, hb2⟩
  obtain ⟨a2, cap2, rfl, hsl2, hmc⟩ := Sl.ofOwn hown2
  have hmb : m ≤ 4500 := by
    have h1 := encodeB_length us
    have h2 := hsl2.1
    have h3 := HU.out.1
    omega
  have H2 := Lib.hid (H1.out.trans (hb2.mono H1.out.size))
  have HS2 := Lib.hid hsl2
  clear hown2 hsl2 hb2
  go_wp2_with fail
  refine (Decode_any _ _ _ _ _ HS2.out (by omega) hmc).mono ?_
  intro e w3 hr
  rw [decode_encode] at hr
  obtain ⟨v3, k, rfl, hown3, hb3⟩ := hr
  obtain ⟨a3, cap3, rfl, hsl3, _⟩ := Sl.ofOwn hown3
  have hk : k = n := by
    have h2 := hsl3.1
    have h3 := HU.out.1
    omega
  subst hk
  have H3 := Lib.hid (H2.out.trans (hb3.mono H2.out.size))
  have HS3 := Lib.hid hsl3
  have HS2' := Lib.hid (HS2.out.below hb3)
  clear hown3 hsl3 hb3 HS2
  go_wp2_with fail
  refine (Len_any _ _ _ _ _ HS2'.out (by omega) hmc).mono ?_
  rw [decode_encode]
  rintro e w4 ⟨rfl, hb4⟩
  have hlen : lenOf (some us) = ((k : Int), 0) := by unfold lenOf; simp only []; rw [HU.out.1]
  rw [hlen]
  clear hlen
  have H4 := Lib.hid (H3.out.trans (hb4.mono H3.out.size))
  have HS4 := Lib.hid (HS2'.out.below hb4)
  have HM4 := Lib.hid (HS3.out.below hb4)
  clear hb4 HS2' HS3
  go_wp2_with fail
  have hcv : ∀ w', Below w4.heap.size w4 w' → (convert 24 9 (.slice a2 m cap2)).run Try.prog w' = .ok (.string ⟨(encodeB us).toArray⟩) w' := fun w' h => run_conv (HS4.out.below h) cap2
  have hSw : Below w4.heap.size w4 w4.drew := (Below.refl _ _).drew
  refine wp_region_lex (Below w4.heap.size w4) [(0, true), (1, true), (2, true), (3, false), (4, false), (5, true), (6, true), (7, true), (8, true), (9, true), (10, true), (11, true), (12, true), (13, true), (14, true), (15, true), (16, true), (17, true), (18, true), (19, true), (20, true), (21, true), (22, true), (23, false), (24, true), (25, true)] (by kernel_rfl) (by kernel_rfl) (fun c a d v w h => by cases d <;> exact h) ?_
  iterate 3
    refine lex_step (fun K hK => ?_)
    simp only [lexOp, List.getElem?_toArray, List.getElem?_cons_succ, List.getElem?_cons_zero]
    rw [if_pos (by rfl)]
    apply Exists.intro
    refine ⟨fun w' hS' => ?_, hSw, ?_⟩
    · first | (go_simp <;> with_reducible rfl) | (go_simp; go_bits; with_reducible rfl)
    go_simp
    try go_bits
    refine hK _ _ ?_
    clear hK K
  refine lex_step (fun K hK => ?_)
  simp only [lexOp, List.getElem?_toArray, List.getElem?_cons_succ, List.getElem?_cons_zero]
  rw [if_pos (by rfl)]
  go_step
  refine (refEncode_any _ _ _ _ us (HU.out.below H4.out.drew) (by omega)).mono ?_
  rintro e w5 ⟨v5, m5, rfl, hown5, hb5⟩
  obtain ⟨a5, cap5, rfl, hsl5, _⟩ := Sl.ofOwn hown5
  replace hSw : Below w4.heap.size w4 w5 := hSw.trans hb5
  have hcv1 := run_conv hsl5 cap5
  have H5 := Lib.hid (H4.out.trans (hSw.mono H4.out.size))
  clear hown5 hsl5 hb5
  go_simp
  refine hK _ _ ?_
  clear hK K
  refine lex_step (fun K hK => ?_)
  simp only [lexOp, List.getElem?_toArray, List.getElem?_cons_succ, List.getElem?_cons_zero]
  rw [if_pos (by rfl)]
  go_step
  refine hK _ _ ?_
  clear hK K hcv1
  iterate 18
    refine lex_step (fun K hK => ?_)
    simp only [lexOp, List.getElem?_toArray, List.getElem?_cons_succ, List.getElem?_cons_zero]
    rw [if_pos (by rfl)]
    apply Exists.intro
    refine ⟨fun w' hS' => ?_, hSw, ?_⟩
    · first | (go_simp <;> with_reducible rfl) | (go_simp; go_bits; with_reducible rfl)
    go_simp
    try go_bits
    refine hK _ _ ?_
    clear hK K
  refine lex_step (fun K hK => ?_)
  simp only [lexOp, List.getElem?_toArray, List.getElem?_cons_succ, List.getElem?_cons_zero]
  rw [if_pos (by rfl)]
  go_step
  refine (Same_any _ _ _ _ us _ _ _ us (HM4.out.below hSw) (HU.out.below H5.out) (by omega) (by omega)).mono ?_
  rintro e w6 ⟨rfl, hb6⟩
  have H6 := Lib.hid (H5.out.trans (hb6.mono H5.out.size))
  replace hSw : Below w4.heap.size w4 w6 := hSw.trans (hb6.mono hSw.size)
  clear hb6
  go_simp
  refine hK _ _ ?_
  clear hK K
  iterate 2
    refine lex_step (fun K hK => ?_)
    simp only [lexOp, List.getElem?_toArray, List.getElem?_cons_succ, List.getElem?_cons_zero]
    rw [if_pos (by rfl)]
    apply Exists.intro
    refine ⟨fun w' hS' => ?_, hSw, ?_⟩
    · first | (go_simp <;> with_reducible rfl) | (go_simp; go_bits; with_reducible rfl)
    go_simp
    try go_bits
    refine hK _ _ ?_
    clear hK K
  refine lex_nil ?_
  go_wp2
  go_ret
  exact ⟨rfl, H6.out⟩

set_option maxRecDepth 100000 in
set_option maxHeartbeats 1000000 in
theorem walk_UtfUnits (x y : Int) (w : World) (hx : (Lit.int .u16 x).wf = true) (hy : (Lit.int .u16 y).wf = true) :
    Calls Try.prog 3 #[.int .u16 x, .int .u16 y] w fun e w' => e = .returned (.bool true) ∧ Below w.heap.size w w' := by
  obtain ⟨x0, x1⟩ := bounds_u16 hx
  obtain ⟨y0, y1⟩ := bounds_u16 hy
  clear hx hy
  obtain ⟨u, rfl⟩ : ∃ u : UInt16, x = (u.toNat : Int) := ⟨UInt16.ofNat x.toNat, by rw [UInt16.toNat_ofNat_of_lt' (by show x.toNat < 65536; omega)]; omega⟩
  obtain ⟨v, rfl⟩ : ∃ u : UInt16, y = (u.toNat : Int) := ⟨UInt16.ofNat y.toNat, by rw [UInt16.toNat_ofNat_of_lt' (by show y.toNat < 65536; omega)]; omega⟩
  go_enter Try.func3, Try.ntmps3
  go_wp2_with fail
  refine (fixed10_any _).mono ?_
  rintro e w1 ⟨rfl, hb1⟩
  have H1 := Lib.hid hb1
  clear hb1
  go_wp2_with fail
  have hS1 := Sl.lit (enc := encU) (n := 1) (heap_alloc_last w1 (Obj.cells (([u] : List UInt16).map encU).toArray 22)) rfl rfl
  have H2 := Lib.hid (H1.out.alloc H1.out.size (Obj.cells (([u] : List UInt16).map encU).toArray 22))
  have HS1 := Lib.hid hS1
  clear hS1
  refine (Encode_any _ _ _ _ [u] HS1.out (by decide)).mono ?_
  rintro e w2 ⟨v2, m2, rfl, hown2, hb2⟩
  rw [show encodeB [u] = unitB u.toNat by simp [encodeB]] at hown2
  obtain ⟨a2, cap2, rfl, hsl2, hc2⟩ := Sl.ofOwn hown2
  have H3 := Lib.hid (H2.out.trans (hb2.mono H2.out.size))
  have HS2 := Lib.hid hsl2
  clear hown2 hsl2 hb2 HS1
  go_wp2_with fail
  have hS1 := Sl.lit (enc := encU) (n := 1) (heap_alloc_last w2 (Obj.cells (([v] : List UInt16).map encU).toArray 22)) rfl rfl
  have H4 := Lib.hid (H3.out.alloc H3.out.size (Obj.cells (([v] : List UInt16).map encU).toArray 22))
  have HS1 := Lib.hid hS1
  clear hS1
  refine (Encode_any _ _ _ _ [v] HS1.out (by decide)).mono ?_
  rintro e w3 ⟨v3, m3, rfl, hown3, hb3⟩
  rw [show encodeB [v] = unitB v.toNat by simp [encodeB]] at hown3
  obtain ⟨a3, cap3, rfl, hsl3, hc3⟩ := Sl.ofOwn hown3
  have H5 := Lib.hid (H4.out.trans (hb3.mono H4.out.size))
  have HS3 := Lib.hid hsl3
  have HS2' := Lib.hid (HS2.out.below (((Below.refl _ _).alloc (Nat.le_refl _) _).trans (hb3.mono (by simp))))
  clear hown3 hsl3 hb3 HS1 HS2
  have hl2 := unitB_length u.toNat
  rw [HS2'.out.1] at hl2
  have hl3 := unitB_length v.toNat
  rw [HS3.out.1] at hl3
  obtain ⟨l2, l2'⟩ := hl2
  obtain ⟨l3, l3'⟩ := hl3
  have hul := u.toNat_lt
  have hvl := v.toNat_lt
  have hcv2 : ∀ w', Below w3.heap.size w3 w' → (convert 24 9 (.slice a2 m2 cap2)).run Try.prog w' = .ok (.string ⟨(unitB u.toNat).toArray⟩) w' := fun w' h => run_conv (HS2'.out.below h) cap2
  have hcv3 : ∀ w', Below w3.heap.size w3 w' → (convert 24 9 (.slice a3 m3 cap3)).run Try.prog w' = .ok (.string ⟨(unitB v.toNat).toArray⟩) w' := fun w' h => run_conv (HS3.out.below h) cap3
  have c2 := hcv2 w3 (Below.refl _ _)
  have c3 := hcv3 w3 (Below.refl _ _)
  have HCV2 := Lib.hid hcv2
  have HCV3 := Lib.hid hcv3
  clear hcv2 hcv3
  by_cases huv : u.toNat = v.toNat
  · rw [huv] at c2 HCV2 ⊢
    go_wp2_with fail
    have hSw : Below w3.heap.size w3 w3.drew := (Below.refl _ _).drew
    refine wp_region_lex (Below w3.heap.size w3) [(0, true), (1, true), (2, true), (3, true), (4, true), (5, true), (6, true), (7, true), (8, true), (9, true), (10, true), (11, true), (12, true), (13, true), (14, true), (15, true), (16, true), (17, true), (18, true), (19, true), (20, true)] (by kernel_rfl) (by kernel_rfl) (fun c a d v w h => by cases d <;> exact h) ?_
    iterate 4
      refine lex_step (fun K hK => ?_)
      simp only [lexOp, List.getElem?_toArray, List.getElem?_cons_succ, List.getElem?_cons_zero]
      rw [if_pos (by rfl)]
      apply Exists.intro
      refine ⟨fun w' hS' => ?_, hSw, ?_⟩
      · first | (go_simp <;> with_reducible rfl) | (go_simp; go_bits; with_reducible rfl)
      go_simp
      try go_bits
      refine hK _ _ ?_
      clear hK K
    iterate 5
      refine lex_step (fun K hK => ?_)
      simp only [lexOp, List.getElem?_toArray, List.getElem?_cons_succ, List.getElem?_cons_zero]
      rw [if_neg (Bool.eq_false_iff.1 (by rfl))]
      refine ⟨hSw, ?_⟩
      go_simp
      refine hK _ _ ?_
      clear hK K
    iterate 2
      refine lex_step (fun K hK => ?_)
      simp only [lexOp, List.getElem?_toArray, List.getElem?_cons_succ, List.getElem?_cons_zero]
      rw [if_pos (by rfl)]
      apply Exists.intro
      refine ⟨fun w' hS' => ?_, hSw, ?_⟩
      · first | (go_simp <;> with_reducible rfl) | (go_simp; go_bits; with_reducible rfl)
      go_simp
      try go_bits
      refine hK _ _ ?_
      clear hK K
    iterate 8
      refine lex_step (fun K hK => ?_)
      simp only [lexOp, List.getElem?_toArray, List.getElem?_cons_succ, List.getElem?_cons_zero]
      rw [if_neg (Bool.eq_false_iff.1 (by rfl))]
      refine ⟨hSw, ?_⟩
      go_simp
      refine hK _ _ ?_
      clear hK K
    iterate 2
      refine lex_step (fun K hK => ?_)
      simp only [lexOp, List.getElem?_toArray, List.getElem?_cons_succ, List.getElem?_cons_zero]
      rw [if_pos (by rfl)]
      apply Exists.intro
      refine ⟨fun w' hS' => ?_, hSw, ?_⟩
      · first | (go_simp <;> with_reducible rfl) | (go_simp; go_bits; with_reducible rfl)
      go_simp
      try go_bits
      refine hK _ _ ?_
      clear hK K
    refine lex_nil ?_
    go_wp2
    go_ret
    exact ⟨rfl, H5.out.drew⟩
  · have hne : ((u.toNat : Int) == (v.toNat : Int)) = false := by simp; omega
    have hne2 : (unitB u.toNat == unitB v.toNat) = false := by
      rw [beq_eq_false_iff_ne]
      exact fun h => huv (unitB_inj hul hvl h)
    have HN := Lib.hid huv
    clear huv
    go_wp2_with fail
    have hSw : Below w3.heap.size w3 w3.drew := (Below.refl _ _).drew
    by_cases hlt : m3 < m2
    · have hd := decide_eq_true (show (m3 : Int) < (m2 : Int) by omega)
      refine wp_region_lex (Below w3.heap.size w3) [(0, true), (1, true), (2, true), (3, true), (4, true), (5, true), (6, true), (7, true), (8, true), (9, true), (10, true), (11, true), (12, true), (13, true), (14, true), (15, true), (16, true), (17, true), (18, true), (19, true), (20, true)] (by kernel_rfl) (by kernel_rfl) (fun c a d v w h => by cases d <;> exact h) ?_
      iterate 11
        refine lex_step (fun K hK => ?_)
        simp only [lexOp, List.getElem?_toArray, List.getElem?_cons_succ, List.getElem?_cons_zero]
        rw [if_pos (by rfl)]
        apply Exists.intro
        refine ⟨fun w' hS' => ?_, hSw, ?_⟩
        · first | (go_simp <;> with_reducible rfl) | (go_simp; go_bits; with_reducible rfl)
        go_simp
        try go_bits
        refine hK _ _ ?_
        clear hK K
      iterate 8
        refine lex_step (fun K hK => ?_)
        simp only [lexOp, List.getElem?_toArray, List.getElem?_cons_succ, List.getElem?_cons_zero]
        rw [if_neg (Bool.eq_false_iff.1 (by rfl))]
        refine ⟨hSw, ?_⟩
        go_simp
        refine hK _ _ ?_
        clear hK K
      iterate 2
        refine lex_step (fun K hK => ?_)
        simp only [lexOp, List.getElem?_toArray, List.getElem?_cons_succ, List.getElem?_cons_zero]
        rw [if_pos (by rfl)]
        apply Exists.intro
        refine ⟨fun w' hS' => ?_, hSw, ?_⟩
        · first | (go_simp <;> with_reducible rfl) | (go_simp; go_bits; with_reducible rfl)
        go_simp
        try go_bits
        refine hK _ _ ?_
        clear hK K
      refine lex_nil ?_
      go_wp2
      go_ret
      exact ⟨rfl, H5.out.drew⟩
    · have hd := decide_eq_false (show ¬ (m3 : Int) < (m2 : Int) by omega)
      have hap : ((unitB v.toNat).take m2 == unitB u.toNat) = false := by
        rw [beq_eq_false_iff_ne]
        have := unitB_apart hul hvl HN.out (by rw [HS2'.out.1, HS3.out.1]; omega)
        rwa [HS2'.out.1] at this
      have q1 : (0 : Int) ≤ (m2 : Int) := by omega
      have q2 : (m2 : Int) ≤ (cap3 : Int) := by omega
      have hcv2 := HCV2.out
      have hcvt : ∀ w', Below w3.heap.size w3 w' → (convert 24 9 (.slice a3 m2 cap3)).run Try.prog w' = .ok (.string ⟨((unitB v.toNat).take m2).toArray⟩) w' := fun w' h => run_conv ((HS3.out.below h).take (by omega)) cap3
      refine wp_region_lex (Below w3.heap.size w3) [(0, true), (1, true), (2, true), (3, true), (4, true), (5, true), (6, true), (7, true), (8, true), (9, true), (10, true), (11, true), (12, true), (13, true), (14, true), (15, true), (16, true), (17, true), (18, true), (19, true), (20, true)] (by kernel_rfl) (by kernel_rfl) (fun c a d v w h => by cases d <;> exact h) ?_
      iterate 21
        refine lex_step (fun K hK => ?_)
        simp only [lexOp, List.getElem?_toArray, List.getElem?_cons_succ, List.getElem?_cons_zero]
        rw [if_pos (by rfl)]
        apply Exists.intro
        refine ⟨fun w' hS' => ?_, hSw, ?_⟩
        · first | (go_simp <;> with_reducible rfl) | (go_simp; go_bits; with_reducible rfl)
        go_simp
        try go_bits
        refine hK _ _ ?_
        clear hK K
      refine lex_nil ?_
      go_wp2
      go_ret
      exact ⟨rfl, H5.out.drew⟩
end Go.Proofs.Ytmchpkjhengjoaa
