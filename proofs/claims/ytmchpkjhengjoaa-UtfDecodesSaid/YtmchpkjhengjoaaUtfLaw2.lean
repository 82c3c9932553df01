/- UtfDecodes: the walk. No condition. -/
import Derived.Test.YtmchpkjhengjoaaUtfFn4
import Derived.Test.YtmchpkjhengjoaaUtfLaw
namespace Go.Proofs.Ytmchpkjhengjoaa
open Go.ChangeShapes Go.WideShapes Go.ChangeAt Go.RowKit
attribute [local go_sem ↓] Go.wp_at_zero Go.wp_at_succ

theorem takeN_unitB {bs : List UInt8} (h : bs ≠ []) (hq : (takeN bs).2 ≠ 0) : unitB (takeN bs).1 = bs.take (takeN bs).2 := by
  obtain ⟨h1, h2⟩ := ref_take bs h
  by_cases hc : 0 ≤ (refN bs).1 ∧ (refN bs).1 ≤ 65535 ∧ unitB (refN bs).1.toNat = bs.take (refN bs).2
  · rw [h1 hc]; exact hc.2.2
  · exact absurd (h2 hc) hq

theorem encode_decodeF (f : Nat) (bs : List UInt8) (us : List UInt16) (hf : bs.length ≤ f) (h : decodeF f bs = some us) : encodeB us = bs := by
  induction f generalizing bs us with
  | zero =>
    have : bs = [] := List.length_eq_zero_iff.1 (by omega)
    subst this
    simp [decodeF] at h
    subst h
    rfl
  | succ f ih =>
    by_cases hne : bs = []
    · subst hne
      simp [decodeF] at h
      subst h
      rfl
    · rw [decodeF_step hf hne] at h
      split at h
      · simp at h
      · rename_i hq
        simp only [Option.map_eq_some_iff] at h
        obtain ⟨vs, hv, rfl⟩ := h
        have hl : 0 < bs.length := List.length_pos_iff.2 hne
        have h2 := ih (bs.drop (takeN bs).2) vs (by simp only [List.length_drop]; omega) hv
        show unitB (UInt16.ofNat (takeN bs).1).toNat ++ encodeB vs = bs
        rw [UInt16.toNat_ofNat_of_lt' (takeN_le hne).2, takeN_unitB hne hq, h2, List.take_append_drop]

theorem encode_decode {bs : List UInt8} {us : List UInt16} (h : decodeB bs = some us) : encodeB us = bs := encode_decodeF _ bs us (Nat.le_refl _) h

theorem encodeB_length_ge (us : List UInt16) : us.length ≤ (encodeB us).length := by
  induction us with
  | nil => simp
  | cons u us ih =>
    have := unitB_length u.toNat
    simp only [encodeB, List.flatMap_cons, List.length_append, List.length_cons] at *
    omega

theorem row_cap {w : World} {a : Option Addr} {len cap : Nat} {zs : List Int} (h : IsRow .u8 w a len cap zs) : len ≤ cap := by
  rcases h with ⟨rfl, rfl, rfl, rfl⟩ | ⟨x, rfl, hl, hm, hz, hc, hwf⟩
  · exact Nat.le_refl _
  · omega

set_option maxRecDepth 100000 in
set_option maxHeartbeats 1000000 in
theorem walk_UtfDecodes (a : Option Addr) (n cap : Nat) (z : List Int) (w : World) (h0 : IsRow .u8 w a n cap z) :
    Calls Try.prog 5 #[.slice a n cap] w fun e w' => e = .returned (.bool true) ∧ Below w.heap.size w w' := by
  have hcap := row_cap h0
  obtain ⟨bs, hB, hm⟩ := Bs.ofRow h0
  unfold maxLen at hm
  have HB := Lib.hid hB.sl
  clear h0 hB
  go_enter Try.func5, Try.ntmps5
  go_wp2_with fail
  refine (fixed10_any _).mono ?_
  rintro e w1 ⟨rfl, hb1⟩
  by_cases hn : 2000 < n
  · go_wp2_with fail
    go_ret
    exact ⟨rfl, hb1⟩
  have H1 := Lib.hid hb1
  have hbl := HB.out.1
  clear hb1
  go_wp2_with fail
  refine (Decode_any _ _ _ _ bs (HB.out.below H1.out) (by omega) hcap).mono ?_
  rcases hd : decodeB bs with _ | us
  · have HD := Lib.hid hd
    clear hd
    rintro e w2 ⟨rfl, hb2⟩
    have H2 := Lib.hid (H1.out.trans (hb2.mono H1.out.size))
    clear hb2
    go_wp2_with fail
    refine (refDecode_any _ _ _ _ bs (HB.out.below H2.out) (by omega) hcap).mono ?_
    rw [HD.out]
    rintro e w3 ⟨rfl, hb3⟩
    have H3 := Lib.hid (H2.out.trans (hb3.mono H2.out.size))
    clear hb3
    go_wp2_with fail
    refine (Len_any _ _ _ _ bs (HB.out.below H3.out) (by omega) hcap).mono ?_
    rw [HD.out]
    rintro e w4 ⟨rfl, hb4⟩
    rw [show lenOf none = ((0 : Int), 8) from rfl]
    have H4 := Lib.hid (H3.out.trans (hb4.mono H3.out.size))
    clear hb4
    go_wp2_with fail
    refine (Same_any _ _ _ _ [] _ _ _ [] (Sl.nil _ _) (Sl.nil _ _) (by omega) (by omega)).mono ?_
    rintro e w5 ⟨rfl, hb5⟩
    have H5 := Lib.hid (H4.out.trans (hb5.mono H4.out.size))
    clear hb5
    go_wp2_with fail
    refine (Plain_any _ _ _ _ bs (HB.out.below H5.out) (by omega)).mono ?_
    rintro e w6 ⟨rfl, rfl⟩
    go_wp2_with fail
    refine (refPlain_any _ _ _ _ bs (HB.out.below H5.out) (by omega)).mono ?_
    rintro e w6 ⟨rfl, rfl⟩
    go_wp2_with fail
    have hSw : Below w5.heap.size w5 w5.drew := (Below.refl _ _).drew
    refine wp_region_lex (Below w5.heap.size w5) [(0, true), (1, true), (2, true), (3, true), (4, true), (5, true), (6, true), (7, true), (8, true), (9, true), (10, true)] (by kernel_rfl) (by kernel_rfl) (fun c a d v w h => by cases d <;> exact h) ?_
    iterate 3
      refine lex_step (fun K hK => ?_)
      simp only [lexOp, List.getElem?_toArray, List.getElem?_cons_succ, List.getElem?_cons_zero]
      rw [if_pos (by rfl)]
      apply Exists.intro
      refine ⟨fun w' hS' => ?_, hSw, ?_⟩
      · first | (go_simp <;> with_reducible rfl) | (go_simp; go_bits; with_reducible rfl)
      go_simp
      try go_bits
      refine hK _ _ ?_
      clear hK K
    iterate 6
      refine lex_step (fun K hK => ?_)
      simp only [lexOp, List.getElem?_toArray, List.getElem?_cons_succ, List.getElem?_cons_zero]
      rw [if_neg (Bool.eq_false_iff.1 (by rfl))]
      refine ⟨hSw, ?_⟩
      go_simp
      refine hK _ _ ?_
      clear hK K
    iterate 2
      refine lex_step (fun K hK => ?_)
      simp only [lexOp, List.getElem?_toArray, List.getElem?_cons_succ, List.getElem?_cons_zero]
      rw [if_pos (by rfl)]
      apply Exists.intro
      refine ⟨fun w' hS' => ?_, hSw, ?_⟩
      · first | (go_simp <;> with_reducible rfl) | (go_simp; go_bits; with_reducible rfl)
      go_simp
      try go_bits
      refine hK _ _ ?_
      clear hK K
    refine lex_nil ?_
    go_wp2
    go_ret
    exact ⟨rfl, H5.out.drew⟩
  · have HD := Lib.hid hd
    have HE := Lib.hid (encode_decode hd)
    have hul := encodeB_length_ge us
    rw [HE.out, hbl] at hul
    clear hd
    rintro e w2 ⟨v2, m, rfl, hown, hb2⟩
    obtain ⟨a2, cap2, rfl, hsl2, _⟩ := Sl.ofOwn hown
    have hm2 := hsl2.1
    have H2 := Lib.hid (H1.out.trans (hb2.mono H1.out.size))
    have HS2 := Lib.hid hsl2
    clear hb2 hown hsl2
    go_wp2_with fail
    refine (refDecode_any _ _ _ _ bs (HB.out.below H2.out) (by omega) hcap).mono ?_
    rw [HD.out]
    rintro e w3 ⟨v3, m3, rfl, hown, hb3⟩
    obtain ⟨a3, cap3, rfl, hsl3, _⟩ := Sl.ofOwn hown
    obtain rfl : m3 = m := by have := hsl3.1; omega
    have H3 := Lib.hid (H2.out.trans (hb3.mono H2.out.size))
    have HS3 := Lib.hid hsl3
    have HS2' := Lib.hid (HS2.out.below hb3)
    clear hb3 hown hsl3 HS2
    go_wp2_with fail
    refine (Len_any _ _ _ _ bs (HB.out.below H3.out) (by omega) hcap).mono ?_
    rw [HD.out]
    rintro e w4 ⟨rfl, hb4⟩
    have hlen : lenOf (some us) = ((m3 : Int), 0) := by unfold lenOf; simp only []; rw [hm2]
    rw [hlen]
    clear hlen
    have H4 := Lib.hid (H3.out.trans (hb4.mono H3.out.size))
    have HS4 := Lib.hid (HS2'.out.below hb4)
    have HM4 := Lib.hid (HS3.out.below hb4)
    clear hb4 HS2' HS3
    go_wp2_with fail
    refine (Same_any _ _ _ _ us _ _ _ us HS4.out HM4.out (by omega) (by omega)).mono ?_
    rw [decide_eq_true rfl]
    rintro e w5 ⟨rfl, hb5⟩
    have H5 := Lib.hid (H4.out.trans (hb5.mono H4.out.size))
    have HS5 := Lib.hid (HS4.out.below hb5)
    clear hb5 HS4 HM4
    go_wp2_with fail
    refine (Plain_any _ _ _ _ bs (HB.out.below H5.out) (by omega)).mono ?_
    rintro e w6 ⟨rfl, rfl⟩
    go_wp2_with fail
    refine (refPlain_any _ _ _ _ bs (HB.out.below H5.out) (by omega)).mono ?_
    rintro e w6 ⟨rfl, rfl⟩
    go_wp2_with fail
    have hcv : ∀ w', Below w5.heap.size w5 w' → (convert 24 9 (.slice a n cap)).run Try.prog w' = .ok (.string ⟨bs.toArray⟩) w' := fun w' h => run_conv ((HB.out.below H5.out).below h) cap
    have hSw : Below w5.heap.size w5 w5.drew := (Below.refl _ _).drew
    refine wp_region_lex (Below w5.heap.size w5) [(0, true), (1, true), (2, true), (3, true), (6, true), (7, true), (4, false), (5, false), (8, true), (9, true), (10, true)] (by kernel_rfl) (by kernel_rfl) (fun c a d v w h => by cases d <;> exact h) ?_
    iterate 6
      refine lex_step (fun K hK => ?_)
      simp only [lexOp, List.getElem?_toArray, List.getElem?_cons_succ, List.getElem?_cons_zero]
      rw [if_pos (by rfl)]
      apply Exists.intro
      refine ⟨fun w' hS' => ?_, hSw, ?_⟩
      · first | (go_simp <;> with_reducible rfl) | (go_simp; go_bits; with_reducible rfl)
      go_simp
      try go_bits
      refine hK _ _ ?_
      clear hK K
    refine lex_step (fun K hK => ?_)
    simp only [lexOp, List.getElem?_toArray, List.getElem?_cons_succ, List.getElem?_cons_zero]
    rw [if_pos (by rfl)]
    go_step
    refine (Encode_any _ _ _ _ us (HS5.out.below hSw) (by omega)).mono ?_
    rw [HE.out]
    rintro e w7 ⟨v7, m7, rfl, hown7, hb7⟩
    obtain ⟨a7, cap7, rfl, hsl7, _⟩ := Sl.ofOwn hown7
    have H7 := Lib.hid ((H5.out.trans (hSw.mono H5.out.size)).trans (hb7.mono (H5.out.trans (hSw.mono H5.out.size)).size))
    replace hSw : Below w5.heap.size w5 w7 := hSw.trans (hb7.mono hSw.size)
    have hcv1 := run_conv hsl7 cap7
    clear hown7 hsl7 hb7
    go_simp
    refine hK _ _ ?_
    clear hK K
    refine lex_step (fun K hK => ?_)
    simp only [lexOp, List.getElem?_toArray, List.getElem?_cons_succ, List.getElem?_cons_zero]
    rw [if_pos (by rfl)]
    go_step
    refine hK _ _ ?_
    clear hK K hcv1
    iterate 3
      refine lex_step (fun K hK => ?_)
      simp only [lexOp, List.getElem?_toArray, List.getElem?_cons_succ, List.getElem?_cons_zero]
      rw [if_pos (by rfl)]
      apply Exists.intro
      refine ⟨fun w' hS' => ?_, hSw, ?_⟩
      · first | (go_simp <;> with_reducible rfl) | (go_simp; go_bits; with_reducible rfl)
      go_simp
      try go_bits
      refine hK _ _ ?_
      clear hK K
    refine lex_nil ?_
    go_wp2
    go_ret
    exact ⟨rfl, H7.out⟩
end Go.Proofs.Ytmchpkjhengjoaa
