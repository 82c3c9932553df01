/- rec: the reference's bytes. No condition. -/
import Derived.Test.YtechkdnoekffmaaQ03ScanTorn
namespace Go.Proofs.Ytechkdnoekffmaa
open Go.ChangeShapes Go.WideShapes Go.ChangeAt Go.RowKit
theorem two_last5 (w : World) (o1 o2 : Obj) : ((w.alloc o1).alloc o2).heap[w.heap.size + 1]? = some o2 := by
  have h := heap_alloc_last (w.alloc o1) o2
  rwa [show (w.alloc o1).heap.size = w.heap.size + 1 by simp] at h
theorem putB_one (v : Nat) (h : v < 256) : putB v 1 = [UInt8.ofNat v] := by
  unfold putB
  simp [List.range, List.range.loop, Nat.mod_eq_of_lt h]
theorem encB_num (v : Nat) (h : v < 256) : Value.int .u8 (v : Int) = encB (UInt8.ofNat v) := by
  unfold encB; rw [UInt8.toNat_ofNat_of_lt' h]
set_option maxRecDepth 100000 in
set_option maxHeartbeats 4000000 in
theorem refBytes5_own (w : World) (u : UInt8) (t : Nat) (kb : List UInt8) (a : Option Addr) (n cap : Nat) (bs : List UInt8) (c : Nat) (hs : Sl encB w a n bs) (h : recOk u.toNat t kb.length n c = true) (ht : t < 4294967296) :
    Calls Try.prog 7 #[recL u.toNat t kb a n cap c] w (OwnRet encB 5 w.heap.size w (recB u t kb bs c)) := by
  have hd := of_decide_eq_true h
  have hu := u8_lt u
  have hkl : kb.length ≤ 64 := by omega
  have hnl : n ≤ 4096 := by omega
  have hcl : c ≤ 16 := by omega
  have hbl := hs.1
  have HE := Lib.hid hs
  clear hs h hd
  have hb1 := (Below.refl w.heap.size w).alloc (Nat.le_refl _) (.cells #[.int .i64 u.toNat, .int .u32 t, .string ⟨kb.toArray⟩, .slice a n cap, .int .i64 c] 28)
  have K1 := Lib.hid (show Blk5 (w.alloc (.cells #[.int .i64 u.toNat, .int .u32 t, .string ⟨kb.toArray⟩, .slice a n cap, .int .i64 c] 28)) w.heap.size (.int .i64 u.toNat) (.int .u32 t) (.string ⟨kb.toArray⟩) (.slice a n cap) (.int .i64 c) 28 from heap_alloc_last w _)
  have H1 := Lib.hid hb1
  clear hb1
  go_enter Try.func7, Try.ntmps7
  go_wp2_with fail
  have S1 := Lib.hid (show Sl encB ((w.alloc (.cells #[.int .i64 u.toNat, .int .u32 t, .string ⟨kb.toArray⟩, .slice a n cap, .int .i64 c] 28)).alloc (.cells #[.int .u8 u.toNat] 5)) (some ⟨w.heap.size + 1, 0, none⟩) 1 [u] from Sl.lit (two_last5 w _ _) rfl rfl)
  refine (refPut_any _ (some ⟨w.heap.size + 1, 0, none⟩) 1 1 ([u]) t 4 S1.out (by omega) (by omega) (by omega) (by omega)).mono ?_
  rintro e w2 ⟨v2, m2, rfl, hown, hb⟩
  obtain ⟨a2, c2, rfl, _, hc2⟩ := Sl.ofOwn hown
  obtain rfl : m2 = 5 := by have h := hown.1; simp [putB_length] at h; omega
  have hbp : Below (w.alloc (.cells #[.int .i64 u.toNat, .int .u32 t, .string ⟨kb.toArray⟩, .slice a n cap, .int .i64 c] 28)).heap.size (w.alloc (.cells #[.int .i64 u.toNat, .int .u32 t, .string ⟨kb.toArray⟩, .slice a n cap, .int .i64 c] 28)) w2 := ((Below.refl _ _).alloc (Nat.le_refl _) _).trans (hb.mono (by simp))
  have K2 := Lib.hid (K1.out.below hbp)
  have H2 := Lib.hid (H1.out.trans (hbp.mono H1.out.size))
  have hown' := own_mono hown (show w.heap.size + 1 ≤ ((w.alloc (.cells #[.int .i64 u.toNat, .int .u32 t, .string ⟨kb.toArray⟩, .slice a n cap, .int .i64 c] 28)).alloc (.cells #[.int .u8 u.toNat] 5)).heap.size by simp)
  have S2 := Lib.hid hown'
  have sz2 : w.heap.size + 1 ≤ w2.heap.size := by have := hbp.size; simpa using this
  have lt1 : w.heap.size < w.heap.size + 1 := by omega
  clear hown hb hbp K1 H1 hown' S1
  obtain ⟨p0, p1, p2, p3, p4, f0, f1, f2, f3, f4, lt2⟩ := K2.out.box
  go_wp2_with (at_builtin; first
    | (refine wpList_app_lit oneB rfl _ _ rfl (w.heap.size + 1) _ 5 _ rfl S2.out _ 1 _ rfl rfl rfl (by omega) (by unfold maxLen; omega) sz2 ?_; intro v3 w3 hown3 hg3 hb3; rw [encB_num kb.length (by omega)] at hown3; have hown3' : w3.ownsRow (w.heap.size + 1) 5 1 v3 6 (([u] ++ putB t 4 ++ putB kb.length 1).map encB) := (by rw [putB_one kb.length (by omega), List.map_append (l₁ := [u] ++ putB t 4)]; exact hown3); obtain ⟨a3, c3, hv3, hsl3, hc3⟩ := Sl.ofOwn hown3'; subst hv3; have S3 := Lib.hid hsl3; have K3 := Lib.hid (K2.out.belowB hb3 lt1); have H3 := Lib.hid (H2.out.trans (hb3.mono (by omega))); clear hown3 hown3' hg3 hb3 hsl3))
  have ld1 : ∀ w', Below (w.heap.size + 1) w3 w' → w'.cell? ⟨w.heap.size, 3, none⟩ = some (.slice a n cap) := fun w' h => (K3.out.belowB h lt1).box.c3
  have ld2 : ∀ w', Below (w.heap.size + 1) w3 w' → w'.cell? ⟨w.heap.size, 4, none⟩ = some (.int .i64 c) := fun w' h => (K3.out.belowB h lt1).box.c4
  have hSw : Below (w.heap.size + 1) w3 w3.drew := (Below.refl _ _).drew
  have sz3 : w.heap.size + 1 ≤ w3.heap.size := K3.out.lt
  refine wp_region_lexT (Below (w.heap.size + 1) w3) (.step 0 true (.step 1 true (.step 2 true (.step 3 true (.step 4 true (.step 6 true (.step 7 true (.step 8 true (.fork 5 (.step 9 false (.step 10 false (.step 11 true .nil))) 9 (.step 5 false (.step 10 false (.step 11 true .nil)))))))))))) (by kernel_rfl) (by kernel_rfl) (fun c a d v w h => by cases d <;> exact h) ?_
  iterate 8
    refine lexT_step (fun K hK => ?_)
    simp only [lexOp, List.getElem?_toArray, List.getElem?_cons_succ, List.getElem?_cons_zero]
    rw [if_pos (by rfl)]
    apply Exists.intro
    refine ⟨fun w' hS' => ?_, hSw, ?_⟩
    · first | (go_simp <;> with_reducible rfl) | (go_simp; go_bits; with_reducible rfl)
    go_simp
    try go_bits
    refine hK _ _ ?_
    clear hK K
  refine lexT_fork ?_ ?_
  · refine lexT_step (fun K hK => ?_)
    simp only [lexOp, List.getElem?_toArray, List.getElem?_cons_succ, List.getElem?_cons_zero]
    rw [if_pos (by rfl)]
    go_step
    refine (refPut_any _ a3 6 c3 _ n 2 (S3.out.below (Below.refl _ _).drew) (by omega) (by omega) (by omega) (by omega)).mono ?_
    rintro e w4 ⟨v4, m4, rfl, hown, hb⟩
    obtain rfl : m4 = 8 := by have h := hown.1; simp [putB_length] at h; omega
    obtain ⟨a4, c4, rfl, _, _⟩ := Sl.ofOwn hown
    have HO4 := Lib.hid (own_mono hown (show w.heap.size + 1 ≤ w3.drew.heap.size by simpa using sz3))
    replace hSw : Below (w.heap.size + 1) w3 w4 := hSw.trans (hb.mono (by simpa using sz3))
    have sz4 : w.heap.size + 1 ≤ w4.heap.size := by have := hSw.size; omega
    clear hown hb
    go_simp
    refine hK _ _ ?_
    clear hK K
    refine lexT_step (fun K hK => ?_)
    simp only [lexOp, List.getElem?_toArray, List.getElem?_cons_succ, List.getElem?_cons_zero]
    rw [if_pos (by rfl)]
    go_step
    replace hSw : Below (w.heap.size + 1) w3 (w4.alloc (.cells #[.int .u8 c] 5)) := hSw.alloc sz4 _
    refine ⟨hSw, hK _ _ ?_⟩
    clear hK K
    refine lexT_step (fun K hK => ?_)
    simp only [lexOp, List.getElem?_toArray, List.getElem?_cons_succ, List.getElem?_cons_zero]
    rw [if_pos (by rfl)]
    change Oper.wp _ _ _ _ _ _
    have hsrc : Sl encB (w4.alloc (.cells #[.int .u8 c] 5)) (some ⟨w4.heap.size, 0, none⟩) 1 [UInt8.ofNat c] := Sl.lit (heap_alloc_last w4 _) (by rw [encB_num c (by omega)]; rfl) rfl
    refine wp_app1 oneB (ops := #[]) rfl _ _ _ rfl (w.heap.size + 1) _ 8 _ rfl (HO4.out.alloc _) _ 1 _ rfl (hsrc.src encB_cell Try.underlying24 _) (by omega) (by unfold maxLen; omega) (by simp; omega) ?_
    intro v5 w5 hown5 _ hb5
    rw [← List.map_append, ← putB_one c (by omega)] at hown5
    obtain ⟨a5, c5, rfl, hsl5, hc5⟩ := Sl.ofOwn hown5
    have hSw5 : Below (w.heap.size + 1) w3 w5 := hSw.trans hb5
    have S5 := Lib.hid hsl5
    have K5 := Lib.hid (K3.out.belowB hSw5 lt1)
    have H5 := Lib.hid (H3.out.trans (hSw5.mono (by omega)))
    have hSS : Below (w.heap.size + 1) w3 w5 := hSw5
    clear hown5 hb5 hsl5 hSw
    have hSw := hSS
    clear hSS hSw5
    go_simp
    refine hK _ _ ?_
    clear hK K
    iterate 1
      refine lexT_step (fun K hK => ?_)
      simp only [lexOp, List.getElem?_toArray, List.getElem?_cons_succ, List.getElem?_cons_zero]
      rw [if_pos (by rfl)]
      apply Exists.intro
      refine ⟨fun w' hS' => ?_, hSw, ?_⟩
      · first | (go_simp <;> with_reducible rfl) | (go_simp; go_bits; with_reducible rfl)
      go_simp
      try go_bits
      refine hK _ _ ?_
      clear hK K
    refine lexT_nil ?_
    have hHd : [u] ++ putB t 4 ++ putB kb.length 1 ++ putB n 2 ++ putB c 1 = recHd u t kb.length bs.length c := by rw [hbl]; rfl
    rw [hHd] at S5
    have HM : Hid (recBody u t kb bs c = recHd u t kb.length bs.length c ++ putB (crcN (recHd u t kb.length bs.length c)) 2 ++ kb ++ bs) := rfl
    have hhl := recHd_length u t kb.length bs.length c
    clear hHd HO4 hSw ld1 ld2 S3 K3 H3 
    generalize recHd u t kb.length bs.length c = hd at S5 HM hhl
    have hcl2 := crcN_lt hd
    have hmm := refSum16_n w5 a5 9 c5 hd S5.out (by omega)
    generalize crcN hd = cr at HM hcl2 hmm
    have HMM := Lib.hid hmm
    clear hmm
    obtain ⟨p0, p1, p2, p3, p4, f0, f1, f2, f3, f4, lt5⟩ := K5.out.box
    go_wp2_with fail
    refine HMM.out.mono ?_
    rintro e w6 ⟨rfl, rfl⟩
    go_wp2_with fail
    refine (refPut_any _ a5 9 c5 hd cr 2 S5.out (by omega) (by omega) (by omega) (by omega)).mono ?_
    rintro e w7 ⟨v7, m7, rfl, hown, hb⟩
    obtain rfl : m7 = 11 := by have h := hown.1; simp [putB_length] at h; omega
    have HO7 := Lib.hid hown
    have K7 := Lib.hid (K5.out.below hb)
    have H7 := Lib.hid (H5.out.trans (hb.mono H5.out.size))
    have sz7 : w5.heap.size ≤ w7.heap.size := hb.size
    have lt6 : w.heap.size < w5.heap.size := K5.out.lt
    obtain ⟨a7, c7, rfl, _, _⟩ := Sl.ofOwn hown
    clear hown hb K5 H5 S5 p0 p1 p2 p3 p4 f0 f1 f2 f3 f4 lt5 HMM
    go_wp2_with fail
    have ld2 : ∀ w', Below w5.heap.size w7 w' → w'.cell? ⟨w.heap.size, 2, none⟩ = some (.string ⟨kb.toArray⟩) := fun w' h => (K7.out.belowB h lt6).box.c2
    have ld3 : ∀ w', Below w5.heap.size w7 w' → w'.cell? ⟨w.heap.size, 3, none⟩ = some (.slice a n cap) := fun w' h => (K7.out.belowB h lt6).box.c3
    have hSw : Below w5.heap.size w7 w7.drew := (Below.refl _ _).drew
    refine wp_region_lex (Below w5.heap.size w7) [(0, true), (1, true), (2, true), (4, true), (5, true), (3, false), (6, false), (7, true)] (by kernel_rfl) (by kernel_rfl) (fun c a d v w h => by cases d <;> exact h) ?_
    iterate 5
      refine lex_step (fun K hK => ?_)
      simp only [lexOp, List.getElem?_toArray, List.getElem?_cons_succ, List.getElem?_cons_zero]
      rw [if_pos (by rfl)]
      apply Exists.intro
      refine ⟨fun w' hS' => ?_, hSw, ?_⟩
      · first | (go_simp <;> with_reducible rfl) | (go_simp; go_bits; with_reducible rfl)
      go_simp
      try go_bits
      refine hK _ _ ?_
      clear hK K
    refine lex_step (fun K hK => ?_)
    simp only [lexOp, List.getElem?_toArray, List.getElem?_cons_succ, List.getElem?_cons_zero]
    rw [if_pos (by rfl)]
    change Oper.wp _ _ _ _ _ _
    refine wp_app1 oneB (ops := #[]) rfl _ _ _ rfl w5.heap.size _ 11 _ rfl HO7.out.drew _ kb.length (kb.map encB) rfl (strSrc _ kb) (by omega) (by unfold maxLen; omega) sz7 ?_
    intro v8 w8 hown8 _ hb8
    rw [← List.map_append] at hown8
    replace hSw : Below w5.heap.size w7 w8 := hSw.trans hb8
    obtain ⟨a8, c8, rfl, _, _⟩ := Sl.ofOwn hown8
    have HO8 := Lib.hid hown8
    clear hown8 hb8
    go_simp
    refine hK _ _ ?_
    clear hK K
    refine lex_step (fun K hK => ?_)
    simp only [lexOp, List.getElem?_toArray, List.getElem?_cons_succ, List.getElem?_cons_zero]
    rw [if_pos (by rfl)]
    change Oper.wp _ _ _ _ _ _
    refine wp_app1 oneB (ops := #[]) rfl _ _ _ rfl w5.heap.size _ (11 + kb.length) _ rfl HO8.out _ n (bs.map encB) rfl ((HE.out.below (H7.out.trans (hSw.mono (by omega)))).src encB_cell Try.underlying24 _) (by omega) (by unfold maxLen; omega) (by have := hSw.size; omega) ?_
    intro v9 w9 hown9 _ hb9
    rw [← List.map_append] at hown9
    replace hSw : Below w5.heap.size w7 w9 := hSw.trans hb9
    obtain ⟨a9, c9, rfl, hsl9, hc9⟩ := Sl.ofOwn hown9
    have S9 := Lib.hid hsl9
    clear hown9 hb9 hsl9
    go_simp
    refine hK _ _ ?_
    clear hK K
    iterate 1
      refine lex_step (fun K hK => ?_)
      simp only [lexOp, List.getElem?_toArray, List.getElem?_cons_succ, List.getElem?_cons_zero]
      rw [if_pos (by rfl)]
      apply Exists.intro
      refine ⟨fun w' hS' => ?_, hSw, ?_⟩
      · first | (go_simp <;> with_reducible rfl) | (go_simp; go_bits; with_reducible rfl)
      go_simp
      try go_bits
      refine hK _ _ ?_
      clear hK K
    refine lex_nil ?_
    rw [← HM.out] at S9
    have H9 := Lib.hid (H7.out.trans (hSw.mono (by omega)))
    clear ld2 ld3 hSw K7 H7 HO7 HO8
    have HF : Hid (recB u t kb bs c = recBody u t kb bs c ++ putB (sumN (recBody u t kb bs c)) 4) := rfl
    clear HM
    generalize recBody u t kb bs c = body at S9 HF
    have hsl2 := sumN_lt body
    have hm9 := refSum32_n w9 a9 _ c9 body S9.out (by omega)
    generalize sumN body = sm at HF hsl2 hm9
    have HM9 := Lib.hid hm9
    clear hm9
    go_wp2_with fail
    refine HM9.out.mono ?_
    rintro e w10 ⟨rfl, rfl⟩
    go_wp2_with fail
    refine (refPut_any _ a9 _ c9 body sm 4 S9.out (by omega) (by omega) (by omega) (by omega)).mono ?_
    rintro e w11 ⟨v11, m11, rfl, hown, hb⟩
    obtain ⟨a11, c11, rfl, hsl, hc11⟩ := Sl.ofOwn hown
    have H11 := Lib.hid (H9.out.trans (hb.mono H9.out.size))
    have HO11 := Lib.hid hown
    clear hown hb hsl
    go_wp2_with fail
    go_ret
    exact ⟨_, _, rfl, by rw [HF.out]; exact own_mono HO11.out H9.out.size, H11.out⟩
  · refine lexT_step (fun K hK => ?_)
    simp only [lexOp, List.getElem?_toArray, List.getElem?_cons_succ, List.getElem?_cons_zero]
    rw [if_pos (by rfl)]
    go_step
    replace hSw : Below (w.heap.size + 1) w3 (w3.drew.alloc (.cells #[.int .u8 c] 5)) := hSw.alloc (by simpa using sz3) _
    refine ⟨hSw, hK _ _ ?_⟩
    clear hK K
    have hsrc0 : Sl encB (w3.drew.alloc (.cells #[.int .u8 c] 5)) (some ⟨w3.heap.size, 0, none⟩) 1 [UInt8.ofNat c] := Sl.lit (heap_alloc_last w3.drew _) (by rw [encB_num c (by omega)]; rfl) rfl
    refine lexT_step (fun K hK => ?_)
    simp only [lexOp, List.getElem?_toArray, List.getElem?_cons_succ, List.getElem?_cons_zero]
    rw [if_pos (by rfl)]
    go_step
    refine (refPut_any _ a3 6 c3 _ n 2 (S3.out.below (((Below.refl _ _).drew).alloc (by simp) _)) (by omega) (by omega) (by omega) (by omega)).mono ?_
    rintro e w4 ⟨v4, m4, rfl, hown, hb⟩
    obtain rfl : m4 = 8 := by have h := hown.1; simp [putB_length] at h; omega
    obtain ⟨a4, c4, rfl, _, _⟩ := Sl.ofOwn hown
    have HO4 := Lib.hid (own_mono hown (show w.heap.size + 1 ≤ (w3.drew.alloc (.cells #[.int .u8 c] 5)).heap.size by simp; omega))
    replace hSw : Below (w.heap.size + 1) w3 w4 := hSw.trans (hb.mono (by simp; omega))
    have sz4 : w.heap.size + 1 ≤ w4.heap.size := by have := hSw.size; omega
    have hsrc := Lib.hid (hsrc0.below hb)
    clear hown hb hsrc0
    go_simp
    refine hK _ _ ?_
    clear hK K
    refine lexT_step (fun K hK => ?_)
    simp only [lexOp, List.getElem?_toArray, List.getElem?_cons_succ, List.getElem?_cons_zero]
    rw [if_pos (by rfl)]
    change Oper.wp _ _ _ _ _ _
    refine wp_app1 oneB (ops := #[]) rfl _ _ _ rfl (w.heap.size + 1) _ 8 _ rfl HO4.out _ 1 _ rfl (hsrc.out.src encB_cell Try.underlying24 _) (by omega) (by unfold maxLen; omega) sz4 ?_
    intro v5 w5 hown5 _ hb5
    rw [← List.map_append, ← putB_one c (by omega)] at hown5
    obtain ⟨a5, c5, rfl, hsl5, hc5⟩ := Sl.ofOwn hown5
    have hSw5 : Below (w.heap.size + 1) w3 w5 := hSw.trans hb5
    have S5 := Lib.hid hsl5
    have K5 := Lib.hid (K3.out.belowB hSw5 lt1)
    have H5 := Lib.hid (H3.out.trans (hSw5.mono (by omega)))
    have hSS : Below (w.heap.size + 1) w3 w5 := hSw5
    clear hown5 hb5 hsl5 hSw
    have hSw := hSS
    clear hSS hSw5
    go_simp
    refine hK _ _ ?_
    clear hK K
    iterate 1
      refine lexT_step (fun K hK => ?_)
      simp only [lexOp, List.getElem?_toArray, List.getElem?_cons_succ, List.getElem?_cons_zero]
      rw [if_pos (by rfl)]
      apply Exists.intro
      refine ⟨fun w' hS' => ?_, hSw, ?_⟩
      · first | (go_simp <;> with_reducible rfl) | (go_simp; go_bits; with_reducible rfl)
      go_simp
      try go_bits
      refine hK _ _ ?_
      clear hK K
    refine lexT_nil ?_
    have hHd : [u] ++ putB t 4 ++ putB kb.length 1 ++ putB n 2 ++ putB c 1 = recHd u t kb.length bs.length c := by rw [hbl]; rfl
    rw [hHd] at S5
    have HM : Hid (recBody u t kb bs c = recHd u t kb.length bs.length c ++ putB (crcN (recHd u t kb.length bs.length c)) 2 ++ kb ++ bs) := rfl
    have hhl := recHd_length u t kb.length bs.length c
    clear hHd HO4 hSw ld1 ld2 S3 K3 H3 hsrc
    generalize recHd u t kb.length bs.length c = hd at S5 HM hhl
    have hcl2 := crcN_lt hd
    have hmm := refSum16_n w5 a5 9 c5 hd S5.out (by omega)
    generalize crcN hd = cr at HM hcl2 hmm
    have HMM := Lib.hid hmm
    clear hmm
    obtain ⟨p0, p1, p2, p3, p4, f0, f1, f2, f3, f4, lt5⟩ := K5.out.box
    go_wp2_with fail
    refine HMM.out.mono ?_
    rintro e w6 ⟨rfl, rfl⟩
    go_wp2_with fail
    refine (refPut_any _ a5 9 c5 hd cr 2 S5.out (by omega) (by omega) (by omega) (by omega)).mono ?_
    rintro e w7 ⟨v7, m7, rfl, hown, hb⟩
    obtain rfl : m7 = 11 := by have h := hown.1; simp [putB_length] at h; omega
    have HO7 := Lib.hid hown
    have K7 := Lib.hid (K5.out.below hb)
    have H7 := Lib.hid (H5.out.trans (hb.mono H5.out.size))
    have sz7 : w5.heap.size ≤ w7.heap.size := hb.size
    have lt6 : w.heap.size < w5.heap.size := K5.out.lt
    obtain ⟨a7, c7, rfl, _, _⟩ := Sl.ofOwn hown
    clear hown hb K5 H5 S5 p0 p1 p2 p3 p4 f0 f1 f2 f3 f4 lt5 HMM
    go_wp2_with fail
    have ld2 : ∀ w', Below w5.heap.size w7 w' → w'.cell? ⟨w.heap.size, 2, none⟩ = some (.string ⟨kb.toArray⟩) := fun w' h => (K7.out.belowB h lt6).box.c2
    have ld3 : ∀ w', Below w5.heap.size w7 w' → w'.cell? ⟨w.heap.size, 3, none⟩ = some (.slice a n cap) := fun w' h => (K7.out.belowB h lt6).box.c3
    have hSw : Below w5.heap.size w7 w7.drew := (Below.refl _ _).drew
    refine wp_region_lex (Below w5.heap.size w7) [(0, true), (1, true), (2, true), (4, true), (5, true), (3, false), (6, false), (7, true)] (by kernel_rfl) (by kernel_rfl) (fun c a d v w h => by cases d <;> exact h) ?_
    iterate 5
      refine lex_step (fun K hK => ?_)
      simp only [lexOp, List.getElem?_toArray, List.getElem?_cons_succ, List.getElem?_cons_zero]
      rw [if_pos (by rfl)]
      apply Exists.intro
      refine ⟨fun w' hS' => ?_, hSw, ?_⟩
      · first | (go_simp <;> with_reducible rfl) | (go_simp; go_bits; with_reducible rfl)
      go_simp
      try go_bits
      refine hK _ _ ?_
      clear hK K
    refine lex_step (fun K hK => ?_)
    simp only [lexOp, List.getElem?_toArray, List.getElem?_cons_succ, List.getElem?_cons_zero]
    rw [if_pos (by rfl)]
    change Oper.wp _ _ _ _ _ _
    refine wp_app1 oneB (ops := #[]) rfl _ _ _ rfl w5.heap.size _ 11 _ rfl HO7.out.drew _ kb.length (kb.map encB) rfl (strSrc _ kb) (by omega) (by unfold maxLen; omega) sz7 ?_
    intro v8 w8 hown8 _ hb8
    rw [← List.map_append] at hown8
    replace hSw : Below w5.heap.size w7 w8 := hSw.trans hb8
    obtain ⟨a8, c8, rfl, _, _⟩ := Sl.ofOwn hown8
    have HO8 := Lib.hid hown8
    clear hown8 hb8
    go_simp
    refine hK _ _ ?_
    clear hK K
    refine lex_step (fun K hK => ?_)
    simp only [lexOp, List.getElem?_toArray, List.getElem?_cons_succ, List.getElem?_cons_zero]
    rw [if_pos (by rfl)]
    change Oper.wp _ _ _ _ _ _
    refine wp_app1 oneB (ops := #[]) rfl _ _ _ rfl w5.heap.size _ (11 + kb.length) _ rfl HO8.out _ n (bs.map encB) rfl ((HE.out.below (H7.out.trans (hSw.mono (by omega)))).src encB_cell Try.underlying24 _) (by omega) (by unfold maxLen; omega) (by have := hSw.size; omega) ?_
    intro v9 w9 hown9 _ hb9
    rw [← List.map_append] at hown9
    replace hSw : Below w5.heap.size w7 w9 := hSw.trans hb9
    obtain ⟨a9, c9, rfl, hsl9, hc9⟩ := Sl.ofOwn hown9
    have S9 := Lib.hid hsl9
    clear hown9 hb9 hsl9
    go_simp
    refine hK _ _ ?_
    clear hK K
    iterate 1
      refine lex_step (fun K hK => ?_)
      simp only [lexOp, List.getElem?_toArray, List.getElem?_cons_succ, List.getElem?_cons_zero]
      rw [if_pos (by rfl)]
      apply Exists.intro
      refine ⟨fun w' hS' => ?_, hSw, ?_⟩
      · first | (go_simp <;> with_reducible rfl) | (go_simp; go_bits; with_reducible rfl)
      go_simp
      try go_bits
      refine hK _ _ ?_
      clear hK K
    refine lex_nil ?_
    rw [← HM.out] at S9
    have H9 := Lib.hid (H7.out.trans (hSw.mono (by omega)))
    clear ld2 ld3 hSw K7 H7 HO7 HO8
    have HF : Hid (recB u t kb bs c = recBody u t kb bs c ++ putB (sumN (recBody u t kb bs c)) 4) := rfl
    clear HM
    generalize recBody u t kb bs c = body at S9 HF
    have hsl2 := sumN_lt body
    have hm9 := refSum32_n w9 a9 _ c9 body S9.out (by omega)
    generalize sumN body = sm at HF hsl2 hm9
    have HM9 := Lib.hid hm9
    clear hm9
    go_wp2_with fail
    refine HM9.out.mono ?_
    rintro e w10 ⟨rfl, rfl⟩
    go_wp2_with fail
    refine (refPut_any _ a9 _ c9 body sm 4 S9.out (by omega) (by omega) (by omega) (by omega)).mono ?_
    rintro e w11 ⟨v11, m11, rfl, hown, hb⟩
    obtain ⟨a11, c11, rfl, hsl, hc11⟩ := Sl.ofOwn hown
    have H11 := Lib.hid (H9.out.trans (hb.mono H9.out.size))
    have HO11 := Lib.hid hown
    clear hown hb hsl
    go_wp2_with fail
    go_ret
    exact ⟨_, _, rfl, by rw [HF.out]; exact own_mono HO11.out H9.out.size, H11.out⟩
theorem refBytes5_any (w : World) (u : UInt8) (t : Nat) (kb : List UInt8) (a : Option Addr) (n cap : Nat) (bs : List UInt8) (c : Nat) (hs : Sl encB w a n bs) (h : recOk u.toNat t kb.length n c = true) (ht : t < 4294967296) :
    Calls Try.prog 7 #[recL u.toNat t kb a n cap c] w fun e w' => ∃ a' n' cap', e = .returned (.slice a' n' cap') ∧ Sl encB w' a' n' (recB u t kb bs c) ∧ n' ≤ cap' ∧ Below w.heap.size w w' :=
  (refBytes5_own w u t kb a n cap bs c hs h ht).mono fun e w' ⟨v, m, he, hown, hb⟩ => by
    obtain ⟨a', c', rfl, hsl, hc⟩ := Sl.ofOwn hown
    exact ⟨a', m, c', he, hsl, hc, hb⟩
end Go.Proofs.Ytechkdnoekffmaa
/- rec: the reader's methods. No condition. -/
namespace Go.Proofs.Ytechkdnoekffmaa
open Go.ChangeShapes Go.WideShapes Go.ChangeAt Go.RowKit
/-- A reader's block: its bytes, and where it stands. -/
def BlkR (w : World) (g : Nat) (a : Option Addr) (n cap : Nat) (i : Int) : Prop := w.heap[g]? = some (.cells #[.slice a n cap, .int .i64 i] 64)
theorem BlkR.lt {w : World} {g : Nat} {a : Option Addr} {n cap : Nat} {i : Int} (h : BlkR w g a n cap i) : g < w.heap.size := (Array.getElem?_eq_some_iff.1 h).1
theorem BlkR.belowB {w w1 : World} {B g : Nat} {a : Option Addr} {n cap : Nat} {i : Int} (h : BlkR w g a n cap i) (hb : Below B w w1) (hlt : g < B) : BlkR w1 g a n cap i := by
  unfold BlkR; rw [hb.block _ hlt]; exact h
theorem BlkR.below {w w1 : World} {g : Nat} {a : Option Addr} {n cap : Nat} {i : Int} (h : BlkR w g a n cap i) (hb : Below w.heap.size w w1) : BlkR w1 g a n cap i := h.belowB hb h.lt
theorem BlkR.cells {w : World} {g : Nat} {a : Option Addr} {n cap : Nat} {i : Int} (hg : BlkR w g a n cap i) : w.cell? ⟨g, 0, none⟩ = some (.slice a n cap) ∧ w.cell? ⟨g, 1, none⟩ = some (.int .i64 i) ∧ w.frozen? ⟨g, 0, none⟩ = false ∧ w.frozen? ⟨g, 1, none⟩ = false := by
  refine ⟨?_, ?_, ?_, ?_⟩
  · rw [cell_of_row w _ 0 _ _ _ hg]; rfl
  · rw [cell_of_row w _ 1 _ _ _ hg]; rfl
  all_goals (unfold World.frozen?; rw [show w.heap[g]? = _ from hg]; rfl)
theorem heap_set5 {w : World} {g : Nat} {cs : Array Value} {t : TypeId} {fr : Nat × Nat} (h : w.heap[g]? = some (.cells cs t fr)) (o : Nat) (v : Value) : (w.setCell ⟨g, o, none⟩ v).heap[g]? = some (.cells (cs.setIfInBounds o v) t fr) := by
  unfold World.setCell
  simp [Array.getElem?_modify, h]
theorem BlkR.set {w : World} {g : Nat} {a : Option Addr} {n cap : Nat} {i j : Int} (h : BlkR w g a n cap i) : BlkR (w.setCell ⟨g, 1, none⟩ (.int .i64 j)) g a n cap j := heap_set5 h 1 _
theorem BlkR.drew {w : World} {g : Nat} {a : Option Addr} {n cap : Nat} {i : Int} (h : BlkR w g a n cap i) : BlkR w.drew g a n cap i := h
/-- What the reader's methods leave behind: the reader stands further on; nothing else below has turned. -/
def ReadTo (g : Nat) (a : Option Addr) (n cap : Nat) (j : Int) (w w' : World) : Prop := BlkR w' g a n cap j ∧ Below g w w' ∧ (∀ h, g < h → h < w.heap.size → w'.heap[h]? = w.heap[h]?)
set_option maxRecDepth 100000 in
set_option maxHeartbeats 4000000 in
theorem next_any (w : World) (g : Nat) (a : Option Addr) (n cap : Nat) (bs : List UInt8) (i k : Nat) (hK : BlkR w g a n cap i) (hs : Sl encB w a n bs) (hcap : n ≤ cap) (hn : n ≤ 1048576) (hk1 : 1 ≤ k) (hk : k ≤ 4) (hi : i + k ≤ n) :
    Calls Try.prog 25 #[.pointer (some ⟨g, 0, none⟩), .int .i64 k] w fun e w' => e = .returned (.int .i64 (getN ((bs.drop i).take k))) ∧ ReadTo g a n cap ((i : Int) + k) w w' := by
  have HK := Lib.hid hK
  have HS := Lib.hid hs
  have hG := fun w' (h : Below w.heap.size w w') => Get_any w' a n cap bs i k (HS.out.below h) hn hcap (by unfold IntR; omega) (by unfold IntR; omega)
  have hbl := hs.1
  have hR : getR bs i k = (((getN ((bs.drop i).take k) : Nat) : Int), (0 : Int)) := by
    unfold getR; rw [if_neg (by omega), if_neg (by omega)]; rfl
  rw [hR] at hG
  have HG := Lib.hid hG
  have hlt := getN_lt ((bs.drop i).take k)
  have hlt2 : getN ((bs.drop i).take k) < 4294967296 := by
    have h2 : 256 ^ ((bs.drop i).take k).length ≤ 256 ^ 4 := Nat.pow_le_pow_right (by decide) (by simp; omega)
    omega
  clear hG hR hlt hK hs
  generalize getN ((bs.drop i).take k) = v at HG hlt2 ⊢
  go_enter Try.func25, Try.ntmps25
  go_wp2_with fail
  have ld0 : ∀ w', Below w.heap.size w w' → w'.cell? ⟨g, 0, none⟩ = some (.slice a n cap) := fun w' h => (HK.out.below h).cells.1
  have ld1 : ∀ w', Below w.heap.size w w' → w'.cell? ⟨g, 1, none⟩ = some (.int .i64 i) := fun w' h => (HK.out.below h).cells.2.1
  have hSw : Below w.heap.size w w.drew := (Below.refl _ _).drew
  refine wp_region_lex (Below w.heap.size w) [(0, true), (1, true), (2, true), (3, true), (4, true), (5, true), (6, true), (7, true), (8, true), (9, false), (10, true), (11, true), (12, true), (13, true), (14, true)] (by kernel_rfl) (by kernel_rfl) (fun c a d v w h => by cases d <;> exact h) ?_
  iterate 9
    refine lex_step (fun K hK => ?_)
    simp only [lexOp, List.getElem?_toArray, List.getElem?_cons_succ, List.getElem?_cons_zero]
    rw [if_pos (by rfl)]
    apply Exists.intro
    refine ⟨fun w' hS' => ?_, hSw, ?_⟩
    · first | (go_simp <;> with_reducible rfl) | (go_simp; go_bits; with_reducible rfl)
    go_simp
    try go_bits
    refine hK _ _ ?_
    clear hK K
  refine lex_step (fun K hK => ?_)
  simp only [lexOp, List.getElem?_toArray, List.getElem?_cons_succ, List.getElem?_cons_zero]
  rw [if_pos (by rfl)]
  go_step
  refine (HG.out _ hSw).mono ?_
  rintro e w2 ⟨rfl, rfl⟩
  go_simp
  refine hK _ _ ?_
  clear hK K
  iterate 5
    refine lex_step (fun K hK => ?_)
    simp only [lexOp, List.getElem?_toArray, List.getElem?_cons_succ, List.getElem?_cons_zero]
    rw [if_pos (by rfl)]
    apply Exists.intro
    refine ⟨fun w' hS' => ?_, hSw, ?_⟩
    · first | (go_simp <;> with_reducible rfl) | (go_simp; go_bits; with_reducible rfl)
    go_simp
    try go_bits
    refine hK _ _ ?_
    clear hK K
  refine lex_nil ?_
  clear ld0 ld1 hSw
  obtain ⟨p0, p1, f0, f1⟩ := HK.out.drew.cells
  have hltg : g < w.heap.size := HK.out.lt
  go_wp2_with fail
  go_ret
  exact ⟨rfl, HK.out.drew.set, ((Below.refl g w).drew).setCell (p := ⟨g, 1, none⟩) (Nat.le_refl g) _, fun h h1 _ => Below.heap_setCell _ _ _ _ (by simp only []; omega)⟩
set_option maxRecDepth 100000 in
set_option maxHeartbeats 4000000 in
theorem take_any (w : World) (g : Nat) (b off n cap : Nat) (i k : Nat) (hK : BlkR w g (some ⟨b, off, none⟩) n cap i) (hcap : n ≤ cap) (hn : n ≤ 1048576) (hi : i + k ≤ n) (hic : i ≠ cap) :
    Calls Try.prog 27 #[.pointer (some ⟨g, 0, none⟩), .int .i64 k] w fun e w' => e = .returned (.slice (some ⟨b, off + i, none⟩) k (cap - i)) ∧ ReadTo g (some ⟨b, off, none⟩) n cap ((i : Int) + k) w w' := by
  have HK := Lib.hid hK
  have hltg : g < w.heap.size := hK.lt
  obtain ⟨p0, p1, f0, f1⟩ := hK.cells
  have g1 : (0 : Int) ≤ (i : Int) := by omega
  have g2 : (i : Int) ≤ (i : Int) + (k : Int) := by omega
  have g3 : (i : Int) + (k : Int) ≤ (cap : Int) := by omega
  have g4 : ¬ cap = i := by omega
  clear hK
  go_enter Try.func27, Try.ntmps27
  go_wp2_with fail
  have K2 := Lib.hid (BlkR.set (j := (i : Int) + k) HK.out)
  obtain ⟨r0, r1, s0, s1⟩ := K2.out.cells
  go_quiet (fail)
  go_wp2
  go_ret
  exact ⟨by rw [Nat.add_sub_cancel_left]; rfl, K2.out, bdrewN ((Below.refl g w).setCell (p := ⟨g, 1, none⟩) (Nat.le_refl g) _) _, fun h h1 _ => Below.heap_setCell w ⟨g, 1, none⟩ _ h (by simp only []; omega)⟩
end Go.Proofs.Ytechkdnoekffmaa
/- rec: Parse, where there is no record. No condition. -/
namespace Go.Proofs.Ytechkdnoekffmaa
open Go.ChangeShapes Go.WideShapes Go.ChangeAt Go.RowKit
theorem results_cell_row_tmp3 {P : Program} {fn : Func} {p u v x : Tmp} {ty : TypeId} (h : fn.results = #[.cell p ty, .tmp u, .tmp v, .tmp x]) (tmps : Array Value) (w : World) (g : Nat) (t : TypeId) (cs : Array Value) (fr : Nat × Nat) (d : TypeDesc)
    (hp : tmps.getD p undef = .pointer (some ⟨g, 0, none⟩)) (hg : w.heap[g]? = some (.cells cs t fr))
    (hu : P.underlying ty = some d) (hd : (match d with | .struct _ | .array _ _ => true | _ => false) = true) (hi : (P.info? ty).map (·.size) = some cs.size) :
    (results fn tmps).run P w = .ok (.tuple #[.agg cs, tmps.getD u undef, tmps.getD v undef, tmps.getD x undef]) w := by
  have hr : (results fn tmps).run P w = ((asAddr (tmps.getD p undef)).run P w).andThen fun a w₁ => ((loadVar ty a).run P w₁).andThen fun y w₂ => .ok (.tuple #[y, tmps.getD u undef, tmps.getD v undef, tmps.getD x undef]) w₂ := by
    simp only [results, h]
    simp [Sem.run_bind, Result.andThen]
  rw [hr, hp]
  simp [asAddr, run_loadVar_row w g t ty cs fr d hg hu hd hi, Result.andThen]
theorem infoRec : (Try.prog.info? 28).map (·.size) = some 5 := by kernel_rfl
theorem Blk5.set {w : World} {g : Nat} {x y z u v x' y' z' u' v' : Value} {t : TypeId} (h : Blk5 w g x y z u v t) :
    Blk5 (((((w.setCell ⟨g, 0, none⟩ x').setCell ⟨g, 1, none⟩ y').setCell ⟨g, 2, none⟩ z').setCell ⟨g, 3, none⟩ u').setCell ⟨g, 4, none⟩ v') g x' y' z' u' v' t :=
  heap_set5 (heap_set5 (heap_set5 (heap_set5 (heap_set5 h 0 x') 1 y') 2 z') 3 u') 4 v'
theorem keep55 (g : Nat) (w : World) (x y z u v : Value) : Below g w (((((w.setCell ⟨g, 0, none⟩ x).setCell ⟨g, 1, none⟩ y).setCell ⟨g, 2, none⟩ z).setCell ⟨g, 3, none⟩ u).setCell ⟨g, 4, none⟩ v) :=
  (((((Below.refl g w).setCell (p := ⟨g, 0, none⟩) (Nat.le_refl g) x).setCell (p := ⟨g, 1, none⟩) (Nat.le_refl g) y).setCell (p := ⟨g, 2, none⟩) (Nat.le_refl g) z).setCell (p := ⟨g, 3, none⟩) (Nat.le_refl g) u).setCell (p := ⟨g, 4, none⟩) (Nat.le_refl g) v
def ParseNo (sz er : Int) (w : World) (e : Ending) (w' : World) : Prop :=
  e = .returned (.tuple #[recV 0 0 ⟨#[]⟩ none 0 0 0, .int .i64 sz, .bool false, .int .i64 er]) ∧ Below w.heap.size w w'
set_option maxRecDepth 100000 in
set_option maxHeartbeats 4000000 in
theorem Parse_none (w : World) (a : Option Addr) (n cap : Nat) (bs : List UInt8) (hs : Sl encB w a n bs) (hn : n ≤ 65536) (h : n = 0 ∨ bs.getD 0 0 = 255) :
    Calls Try.prog 15 #[.slice a n cap] w (ParseNo 0 11 w) := by
  have K0 := Lib.hid (show Blk5 (w.alloc (.cells #[.int .i64 0, .int .u32 0, .string ⟨#[]⟩, .slice none 0 0, .int .i64 0] 28)) w.heap.size (.int .i64 0) (.int .u32 0) (.string ⟨#[]⟩) (.slice none 0 0) (.int .i64 0) 28 from heap_alloc_last w _)
  have HB := Lib.hid ((Below.refl w.heap.size w).alloc (Nat.le_refl _) (.cells #[.int .i64 0, .int .u32 0, .string ⟨#[]⟩, .slice none 0 0, .int .i64 0] 28))
  by_cases h0 : n = 0
  · subst h0
    clear h hs
    go_enter Try.func15, Try.ntmps15
    go_wp2_with fail
    exact bodyPost_ret (results_cell_row_tmp3 rfl _ _ w.heap.size _ _ _ _ rfl K0.out Try.underlying28 rfl infoRec) rfl ⟨rfl, HB.out⟩
  · have h1 : bs.getD 0 0 = 255 := h.resolve_left h0
    obtain ⟨b, off, rfl, hlt, hc⟩ := hs.2 (by omega)
    have c0 := hc 0 (by have := hs.1; omega)
    rw [show bs[0]'(by have := hs.1; omega) = 255 by rw [← h1]; simp [List.getD, List.getElem?_eq_getElem (show 0 < bs.length by have := hs.1; omega)]] at c0
    have g1 : (0 : Int) < (n : Int) := by omega
    have e0 : ((n : Int) == 0) = false := eqi_no (by omega)
    have c0' : w.cell? ⟨b, off, none⟩ = some (.int .u8 255) := c0
    clear h hs hc h1 c0 h0
    go_enter Try.func15, Try.ntmps15
    go_wp2_with fail
    exact bodyPost_ret (results_cell_row_tmp3 rfl _ _ w.heap.size _ _ _ _ rfl K0.out Try.underlying28 rfl infoRec) rfl ⟨rfl, HB.out⟩
/-- What is known of bytes that may begin with a record. -/
theorem first_cell {w : World} {a : Option Addr} {n : Nat} {bs : List UInt8} (hs : Sl encB w a n bs) (h0 : 0 < n) (h1 : bs.getD 0 0 ≠ 255) :
    ∃ b off, a = some ⟨b, off, none⟩ ∧ b < w.heap.size ∧ w.cell? ⟨b, off, none⟩ = some (.int .u8 ((bs.getD 0 0).toNat : Int)) ∧ (((bs.getD 0 0).toNat : Int) == 255) = false ∧ ∀ i, i < n → w.cell? ⟨b, off + i, none⟩ = some (.int .u8 ((bs.getD i 0).toNat : Int)) := by
  obtain ⟨b, off, ha, hlt, hc⟩ := hs.2 h0
  have hl := hs.1
  have key : ∀ i, i < n → w.cell? ⟨b, off + i, none⟩ = some (.int .u8 ((bs.getD i 0).toNat : Int)) := by
    intro i hi
    have := hc i (by omega)
    rw [this]
    simp [List.getD, List.getElem?_eq_getElem (show i < bs.length by omega), encB]
  refine ⟨b, off, ha, hlt, key 0 h0, ?_, key⟩
  apply eqi_no
  intro h
  apply h1
  apply UInt8.toNat_inj.1
  show (bs.getD 0 0).toNat = 255
  omega
set_option maxRecDepth 100000 in
set_option maxHeartbeats 4000000 in
theorem Parse_short (w : World) (a : Option Addr) (n cap : Nat) (bs : List UInt8) (hs : Sl encB w a n bs) (h0 : 0 < n) (h1 : bs.getD 0 0 ≠ 255) (h : n < 11) :
    Calls Try.prog 15 #[.slice a n cap] w (ParseNo 0 6 w) := by
  have K0 := Lib.hid (show Blk5 (w.alloc (.cells #[.int .i64 0, .int .u32 0, .string ⟨#[]⟩, .slice none 0 0, .int .i64 0] 28)) w.heap.size (.int .i64 0) (.int .u32 0) (.string ⟨#[]⟩) (.slice none 0 0) (.int .i64 0) 28 from heap_alloc_last w _)
  have HB := Lib.hid ((Below.refl w.heap.size w).alloc (Nat.le_refl _) (.cells #[.int .i64 0, .int .u32 0, .string ⟨#[]⟩, .slice none 0 0, .int .i64 0] 28))
  obtain ⟨b, off, rfl, hlt, c0, e255, _⟩ := first_cell hs h0 h1
  generalize ((bs.getD 0 0).toNat : Int) = x0 at c0 e255
  have g1 : (0 : Int) < (n : Int) := by omega
  have e0 : ((n : Int) == 0) = false := eqi_no (by omega)
  clear h1 hs
  go_enter Try.func15, Try.ntmps15
  go_wp2_with fail
  exact bodyPost_ret (results_cell_row_tmp3 rfl _ _ w.heap.size _ _ _ _ rfl K0.out Try.underlying28 rfl infoRec) rfl ⟨rfl, HB.out⟩
theorem putB_two (v : Nat) : putB v 2 = [UInt8.ofNat (v / 256 % 256), UInt8.ofNat (v % 256)] := by
  unfold putB
  simp [List.range, List.range.loop]
set_option maxRecDepth 100000 in
set_option maxHeartbeats 4000000 in
theorem Parse_sum1 (w : World) (a : Option Addr) (n cap : Nat) (bs : List UInt8) (hs : Sl encB w a n bs) (hn : n ≤ 65536) (hcap : n ≤ cap) (h1 : bs.getD 0 0 ≠ 255) (h : 11 ≤ n) (h9 : crcN (bs.take 9) / 256 ≠ (bs.getD 9 0).toNat) :
    Calls Try.prog 15 #[.slice a n cap] w (ParseNo 0 7 w) := by
  have K0 := Lib.hid (show Blk5 (w.alloc (.cells #[.int .i64 0, .int .u32 0, .string ⟨#[]⟩, .slice none 0 0, .int .i64 0] 28)) w.heap.size (.int .i64 0) (.int .u32 0) (.string ⟨#[]⟩) (.slice none 0 0) (.int .i64 0) 28 from heap_alloc_last w _)
  have HB := Lib.hid ((Below.refl w.heap.size w).alloc (Nat.le_refl _) (.cells #[.int .i64 0, .int .u32 0, .string ⟨#[]⟩, .slice none 0 0, .int .i64 0] 28))
  obtain ⟨b, off, rfl, hlt, c0, e255, hcell⟩ := first_cell hs (by omega) h1
  have c9 := hcell 9 (by omega)
  have HS9 := Lib.hid (hs.take (j := 9) (by omega))
  have hcr := crcN_lt (bs.take 9)
  have hM := fun w' (hb : Below w.heap.size w w') => Sum16_n w' (some ⟨b, off, none⟩) 9 cap (bs.take 9) (HS9.out.below hb) (by omega)
  generalize ((bs.getD 0 0).toNat : Int) = x0 at c0 e255
  have hx9 := u8_lt (bs.getD 9 0)
  generalize (bs.getD 9 0).toNat = x9 at c9 hx9 h9
  generalize crcN (bs.take 9) = cr at hcr hM h9
  have HM := Lib.hid hM
  have HC9 := Lib.hid c9
  have g1 : (0 : Int) < (n : Int) := by omega
  have g2 : (9 : Int) ≤ (cap : Int) := by omega
  have g3 : (9 : Int) < (n : Int) := by omega
  have e0 : ((n : Int) == 0) = false := eqi_no (by omega)
  clear h1 hs hcell hM c9
  go_enter Try.func15, Try.ntmps15
  go_wp2_with fail
  have ld9 : ∀ w', Below (w.heap.size + 1) (w.alloc (.cells #[.int .i64 0, .int .u32 0, .string ⟨#[]⟩, .slice none 0 0, .int .i64 0] 28)) w' → w'.cell? ⟨b, off + 9, none⟩ = some (.int .u8 (x9 : Int)) := fun w' h => by
    rw [(HB.out.trans (h.mono (by simp))).cell (by simpa using hlt)]; exact HC9.out
  have hSw : Below (w.heap.size + 1) (w.alloc (.cells #[.int .i64 0, .int .u32 0, .string ⟨#[]⟩, .slice none 0 0, .int .i64 0] 28)) (w.alloc (.cells #[.int .i64 0, .int .u32 0, .string ⟨#[]⟩, .slice none 0 0, .int .i64 0] 28)).drew := (Below.refl _ _).drew
  refine wp_region_lex2 (Below (w.heap.size + 1) (w.alloc (.cells #[.int .i64 0, .int .u32 0, .string ⟨#[]⟩, .slice none 0 0, .int .i64 0] 28))) [(0, true), (1, true), (7, true), (8, true), (9, true), (2, false), (3, true), (4, false), (5, true), (6, true), (10, true), (11, true)] (by kernel_rfl) (by kernel_rfl) (fun c a d v w h => by cases d <;> exact h) ?_
  iterate 5
    refine lex2_step (fun K hK => ?_)
    simp only [lexOp, List.getElem?_toArray, List.getElem?_cons_succ, List.getElem?_cons_zero]
    rw [if_pos (by rfl)]
    apply Exists.intro
    refine ⟨fun w' hS' => ?_, hSw, ?_⟩
    · first | (go_simp <;> with_reducible rfl) | (go_simp; go_bits; with_reducible rfl)
    go_simp
    try go_bits
    refine hK _ _ ?_
    clear hK K
  refine lex2_step (fun K hK => ?_)
  simp only [lexOp, List.getElem?_toArray, List.getElem?_cons_succ, List.getElem?_cons_zero]
  rw [if_pos (by rfl)]
  go_step
  refine (HM.out _ (HB.out.trans (hSw.mono (by omega)))).mono ?_
  rintro e w5 ⟨rfl, hb5⟩
  replace hSw : Below (w.heap.size + 1) (w.alloc (.cells #[.int .i64 0, .int .u32 0, .string ⟨#[]⟩, .slice none 0 0, .int .i64 0] 28)) w5 := hSw.trans (hb5.mono (by simp))
  have sz5 : w.heap.size + 1 ≤ w5.heap.size := by have := hSw.size; simpa using this
  clear hb5
  go_simp
  refine hK _ _ ?_
  clear hK K
  iterate 1
    refine lex2_step (fun K hK => ?_)
    simp only [lexOp, List.getElem?_toArray, List.getElem?_cons_succ, List.getElem?_cons_zero]
    rw [if_pos (by rfl)]
    apply Exists.intro
    refine ⟨fun w' hS' => ?_, hSw, ?_⟩
    · first | (go_simp <;> with_reducible rfl) | (go_simp; go_bits; with_reducible rfl)
    go_simp
    try go_bits
    refine hK _ _ ?_
    clear hK K
  refine lex2_step (fun K hK => ?_)
  simp only [lexOp, List.getElem?_toArray, List.getElem?_cons_succ, List.getElem?_cons_zero]
  rw [if_pos (by rfl)]
  go_step
  refine (Put_any _ none 0 0 [] cr 2 (Sl.nil _ _) (by omega) (by omega) (by omega) (by omega) (by omega)).mono ?_
  rintro e w6 ⟨v6, m6, rfl, hown, hb6⟩
  rw [List.nil_append, putB_two] at hown
  obtain rfl : m6 = 2 := by have h := hown.1; simp at h; omega
  obtain ⟨a6, c6, rfl, _, hc6⟩ := Sl.ofOwn hown
  obtain ⟨g6, rfl, _, _⟩ := own_addr hown (by omega)
  have hcell := own_cell hown 0 (by simp)
  rw [show encB ([UInt8.ofNat (cr / 256 % 256), UInt8.ofNat (cr % 256)][0]'(by simp)) = .int .u8 ((cr / 256 : Nat) : Int) by
    show encB (UInt8.ofNat (cr / 256 % 256)) = _
    rw [← encB_num (cr / 256 % 256) (by omega), Nat.mod_eq_of_lt (by omega)]] at hcell
  generalize cr / 256 = q at h9 hcell
  have HC6 := Lib.hid hcell
  replace hSw : Below (w.heap.size + 1) (w.alloc (.cells #[.int .i64 0, .int .u32 0, .string ⟨#[]⟩, .slice none 0 0, .int .i64 0] 28)) w6 := hSw.trans (hb6.mono sz5)
  have H6 := Lib.hid (HB.out.trans (hSw.mono (by omega)))
  have K6 := Lib.hid (K0.out.belowB hSw (by omega))
  have e9 : ((q : Int) == (x9 : Int)) = false := eqi_no (by omega)
  have e9' : ((q : Int) != (x9 : Int)) = true := by simp; omega
  clear hown hb6 hcell
  go_simp
  refine hK _ _ ?_
  clear hK K
  refine lex2_strong (Below w6.heap.size w6) (fun x h => hSw.trans (h.mono (by have := hSw.size; simpa using this))) ?_
  have ld6 : ∀ w', Below w6.heap.size w6 w' → w'.cell? ⟨g6, 0, none⟩ = some (.int .u8 (q : Int)) := fun w' h => by
    rw [h.cell (by assumption)]; exact HC6.out
  clear hSw ld9
  have hSw : Below w6.heap.size w6 w6 := Below.refl _ _
  iterate 4
    refine lex2_step (fun K hK => ?_)
    simp only [lexOp, List.getElem?_toArray, List.getElem?_cons_succ, List.getElem?_cons_zero]
    rw [if_pos (by rfl)]
    apply Exists.intro
    refine ⟨fun w' hS' => ?_, hSw, ?_⟩
    · first | (go_simp <;> with_reducible rfl) | (go_simp; go_bits; with_reducible rfl)
    go_simp
    try go_bits
    refine hK _ _ ?_
    clear hK K
  refine lex2_nil ?_
  clear ld6 hSw
  obtain ⟨p0, p1, p2, p3, p4, f0, f1, f2, f3, f4, lt1⟩ := K6.out.box
  go_wp2_with fail
  have K8 := Lib.hid (K6.out.set (x' := .int .i64 0) (y' := .int .u32 0) (z' := .string ⟨#[]⟩) (u' := .slice none 0 0) (v' := .int .i64 0))
  have H8 := Lib.hid (H6.out.trans (keep55 w.heap.size w6 (.int .i64 0) (.int .u32 0) (.string ⟨#[]⟩) (.slice none 0 0) (.int .i64 0)))
  exact bodyPost_ret (results_cell_row_tmp3 rfl _ _ w.heap.size _ _ _ _ rfl K8.out Try.underlying28 rfl infoRec) rfl ⟨rfl, H8.out⟩
end Go.Proofs.Ytechkdnoekffmaa
