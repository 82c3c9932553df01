/- rec: the reference's bytes. No condition. -/
import Derived.Test.YtechkdnoekffmaaRecFn3
import Derived.Test.YtechkdnoekffmaaRegionT
namespace Go.Proofs.Ytechkdnoekffmaa
open Go.ChangeShapes Go.WideShapes Go.ChangeAt Go.RowKit
theorem two_last5 (w : World) (o1 o2 : Obj) : ((w.alloc o1).alloc o2).heap[w.heap.size + 1]? = some o2 := by
  have h := heap_alloc_last (w.alloc o1) o2
  rwa [show (w.alloc o1).heap.size = w.heap.size + 1 by simp] at h
theorem putB_one (v : Nat) (h : v < 256) : putB v 1 = [UInt8.ofNat v] := by
  unfold putB
  simp [List.range, List.range.loop, Nat.mod_eq_of_lt h]
theorem encB_num (v : Nat) (h : v < 256) : Value.int .u8 (v : Int) = encB (UInt8.ofNat v) := by
  unfold encB; rw [UInt8.toNat_ofNat_of_lt' h]
set_option maxRecDepth 100000 in
set_option maxHeartbeats 4000000 in
theorem refBytes5_own (w : World) (u : UInt8) (t : Nat) (kb : List UInt8) (a : Option Addr) (n cap : Nat) (bs : List UInt8) (c : Nat) (hs : Sl encB w a n bs) (h : recOk u.toNat t kb.length n c = true) (ht : t < 4294967296) :
    Calls Try.prog 7 #[recL u.toNat t kb a n cap c] w (OwnRet encB 5 w.heap.size w (recB u t kb bs c)) := by
  have hd := of_decide_eq_true h
  have hu := u8_lt u
  have hkl : kb.length ≤ 64 := by omega
  have hnl : n ≤ 4096 := by omega
  have hcl : c ≤ 16 := by omega
  have hbl := hs.1
  have HE := Lib.hid hs
  clear hs h hd
  have hb1 := (Below.refl w.heap.size w).alloc (Nat.le_refl _) (.cells #[.int .i64 u.toNat, .int .u32 t, .string ⟨kb.toArray⟩, .slice a n cap, .int .i64 c] 28)
  have K1 := Lib.hid (show Blk5 (w.alloc (.cells #[.int .i64 u.toNat, .int .u32 t, .string ⟨kb.toArray⟩, .slice a n cap, .int .i64 c] 28)) w.heap.size (.int .i64 u.toNat) (.int .u32 t) (.string ⟨kb.toArray⟩) (.slice a n cap) (.int .i64 c) 28 from heap_alloc_last w _)
  have H1 := Lib.hid hb1
  clear hb1
  go_enter Try.func7, Try.ntmps7
  go_wp2_with fail
  have S1 := Lib.hid (show Sl encB ((w.alloc (.cells #[.int .i64 u.toNat, .int .u32 t, .string ⟨kb.toArray⟩, .slice a n cap, .int .i64 c] 28)).alloc (.cells #[.int .u8 u.toNat] 5)) (some ⟨w.heap.size + 1, 0, none⟩) 1 [u] from Sl.lit (two_last5 w _ _) rfl rfl)
  refine (refPut_any _ (some ⟨w.heap.size + 1, 0, none⟩) 1 1 ([u]) t 4 S1.out (by omega) (by omega) (by omega) (by omega)).mono ?_
  rintro e w2 ⟨v2, m2, rfl, hown, hb⟩
  obtain ⟨a2, c2, rfl, _, hc2⟩ := Sl.ofOwn hown
  obtain rfl : m2 = 5 := by have h := hown.1; simp [putB_length] at h; omega
  have hbp : Below (w.alloc (.cells #[.int .i64 u.toNat, .int .u32 t, .string ⟨kb.toArray⟩, .slice a n cap, .int .i64 c] 28)).heap.size (w.alloc (.cells #[.int .i64 u.toNat, .int .u32 t, .string ⟨kb.toArray⟩, .slice a n cap, .int .i64 c] 28)) w2 := ((Below.refl _ _).alloc (Nat.le_refl _) _).trans (hb.mono (by simp))
  have K2 := Lib.hid (K1.out.below hbp)
  have H2 := Lib.hid (H1.out.trans (hbp.mono H1.out.size))
  have hown' := own_mono hown (show w.heap.size + 1 ≤ ((w.alloc (.cells #[.int .i64 u.toNat, .int .u32 t, .string ⟨kb.toArray⟩, .slice a n cap, .int .i64 c] 28)).alloc (.cells #[.int .u8 u.toNat] 5)).heap.size by simp)
  have S2 := Lib.hid hown'
  have sz2 : w.heap.size + 1 ≤ w2.heap.size := by have := hbp.size; simpa using this
  have lt1 : w.heap.size < w.heap.size + 1 := by omega
  clear hown hb hbp K1 H1 hown' S1
  obtain ⟨p0, p1, p2, p3, p4, f0, f1, f2, f3, f4, lt2⟩ := K2.out.box
  go_wp2_with (at_builtin; first
    | (refine wpList_app_lit oneB rfl _ _ rfl (w.heap.size + 1) _ 5 _ rfl S2.out _ 1 _ rfl rfl rfl (by omega) (by unfold maxLen; omega) sz2 ?_; intro v3 w3 hown3 hg3 hb3; rw [encB_num kb.length (by omega)] at hown3; have hown3' : w3.ownsRow (w.heap.size + 1) 5 1 v3 6 (([u] ++ putB t 4 ++ putB kb.length 1).map encB) := (by rw [putB_one kb.length (by omega), List.map_append (l₁ := [u] ++ putB t 4)]; exact hown3); obtain ⟨a3, c3, hv3, hsl3, hc3⟩ := Sl.ofOwn hown3'; subst hv3; have S3 := Lib.hid hsl3; have K3 := Lib.hid (K2.out.belowB hb3 lt1); have H3 := Lib.hid (H2.out.trans (hb3.mono (by omega))); clear hown3 hown3' hg3 hb3 hsl3))
  have ld1 : ∀ w', Below (w.heap.size + 1) w3 w' → w'.cell? ⟨w.heap.size, 3, none⟩ = some (.slice a n cap) := fun w' h => (K3.out.belowB h lt1).box.c3
  have ld2 : ∀ w', Below (w.heap.size + 1) w3 w' → w'.cell? ⟨w.heap.size, 4, none⟩ = some (.int .i64 c) := fun w' h => (K3.out.belowB h lt1).box.c4
  have hSw : Below (w.heap.size + 1) w3 w3.drew := (Below.refl _ _).drew
  have sz3 : w.heap.size + 1 ≤ w3.heap.size := K3.out.lt
  refine wp_region_lexT (Below (w.heap.size + 1) w3) (.step 0 true (.step 1 true (.step 2 true (.step 3 true (.step 4 true (.step 6 true (.step 7 true (.step 8 true (.fork 5 (.step 9 false (.step 10 false (.step 11 true .nil))) 9 (.step 5 false (.step 10 false (.step 11 true .nil)))))))))))) (by kernel_rfl) (by kernel_rfl) (fun c a d v w h => by cases d <;> exact h) ?_
  iterate 8
    refine lexT_step (fun K hK => ?_)
    simp only [lexOp, List.getElem?_toArray, List.getElem?_cons_succ, List.getElem?_cons_zero]
    rw [if_pos (by rfl)]
    apply Exists.intro
    refine ⟨fun w' hS' => ?_, hSw, ?_⟩
    · first | (go_simp <;> with_reducible rfl) | (go_simp; go_bits; with_reducible rfl)
    go_simp
    try go_bits
    refine hK _ _ ?_
    clear hK K
  refine lexT_fork ?_ ?_
  · refine lexT_step (fun K hK => ?_)
    simp only [lexOp, List.getElem?_toArray, List.getElem?_cons_succ, List.getElem?_cons_zero]
    rw [if_pos (by rfl)]
    go_step
    refine (refPut_any _ a3 6 c3 _ n 2 (S3.out.below (Below.refl _ _).drew) (by omega) (by omega) (by omega) (by omega)).mono ?_
    rintro e w4 ⟨v4, m4, rfl, hown, hb⟩
    obtain rfl : m4 = 8 := by have h := hown.1; simp [putB_length] at h; omega
    obtain ⟨a4, c4, rfl, _, _⟩ := Sl.ofOwn hown
    have HO4 := Lib.hid (own_mono hown (show w.heap.size + 1 ≤ w3.drew.heap.size by simpa using sz3))
    replace hSw : Below (w.heap.size + 1) w3 w4 := hSw.trans (hb.mono (by simpa using sz3))
    have sz4 : w.heap.size + 1 ≤ w4.heap.size := by have := hSw.size; omega
    clear hown hb
    go_simp
    refine hK _ _ ?_
    clear hK K
    refine lexT_step (fun K hK => ?_)
    simp only [lexOp, List.getElem?_toArray, List.getElem?_cons_succ, List.getElem?_cons_zero]
    rw [if_pos (by rfl)]
    go_step
    replace hSw : Below (w.heap.size + 1) w3 (w4.alloc (.cells #[.int .u8 c] 5)) := hSw.alloc sz4 _
    refine ⟨hSw, hK _ _ ?_⟩
    clear hK K
    refine lexT_step (fun K hK => ?_)
    simp only [lexOp, List.getElem?_toArray, List.getElem?_cons_succ, List.getElem?_cons_zero]
    rw [if_pos (by rfl)]
    change Oper.wp _ _ _ _ _ _
    have hsrc : Sl encB (w4.alloc (.cells #[.int .u8 c] 5)) (some ⟨w4.heap.size, 0, none⟩) 1 [UInt8.ofNat c] := Sl.lit (heap_alloc_last w4 _) (by rw [encB_num c (by omega)]; rfl) rfl
    refine wp_app1 oneB (ops := #[]) rfl _ _ _ rfl (w.heap.size + 1) _ 8 _ rfl (HO4.out.alloc _) _ 1 _ rfl (hsrc.src encB_cell Try.underlying24 _) (by omega) (by unfold maxLen; omega) (by simp; omega) ?_
    intro v5 w5 hown5 _ hb5
    rw [← List.map_append, ← putB_one c (by omega)] at hown5
    obtain ⟨a5, c5, rfl, hsl5, hc5⟩ := Sl.ofOwn hown5
    have hSw5 : Below (w.heap.size + 1) w3 w5 := hSw.trans hb5
    have S5 := Lib.hid hsl5
    have K5 := Lib.hid (K3.out.belowB hSw5 lt1)
    have H5 := Lib.hid (H3.out.trans (hSw5.mono (by omega)))
    have hSS : Below (w.heap.size + 1) w3 w5 := hSw5
    clear hown5 hb5 hsl5 hSw
    have hSw := hSS
    clear hSS hSw5
    go_simp
    refine hK _ _ ?_
    clear hK K
    iterate 1
      refine lexT_step (fun K hK => ?_)
      simp only [lexOp, List.getElem?_toArray, List.getElem?_cons_succ, List.getElem?_cons_zero]
      rw [if_pos (by rfl)]
      apply Exists.intro
      refine ⟨fun w' hS' => ?_, hSw, ?_⟩
      · first | (go_simp <;> with_reducible rfl) | (go_simp; go_bits; with_reducible rfl)
      go_simp
      try go_bits
      refine hK _ _ ?_
      clear hK K
    refine lexT_nil ?_
    have hHd : [u] ++ putB t 4 ++ putB kb.length 1 ++ putB n 2 ++ putB c 1 = recHd u t kb.length bs.length c := by rw [hbl]; rfl
    rw [hHd] at S5
    have HM : Hid (recBody u t kb bs c = recHd u t kb.length bs.length c ++ putB (crcN (recHd u t kb.length bs.length c)) 2 ++ kb ++ bs) := rfl
    have hhl := recHd_length u t kb.length bs.length c
    clear hHd HO4 hSw ld1 ld2 S3 K3 H3 
    generalize recHd u t kb.length bs.length c = hd at S5 HM hhl
    have hcl2 := crcN_lt hd
    have hmm := refSum16_n w5 a5 9 c5 hd S5.out (by omega)
    generalize crcN hd = cr at HM hcl2 hmm
    have HMM := Lib.hid hmm
    clear hmm
    obtain ⟨p0, p1, p2, p3, p4, f0, f1, f2, f3, f4, lt5⟩ := K5.out.box
    go_wp2_with fail
    refine HMM.out.mono ?_
    rintro e w6 ⟨rfl, rfl⟩
    go_wp2_with fail
    refine (refPut_any _ a5 9 c5 hd cr 2 S5.out (by omega) (by omega) (by omega) (by omega)).mono ?_
    rintro e w7 ⟨v7, m7, rfl, hown, hb⟩
    obtain rfl : m7 = 11 := by have h := hown.1; simp [putB_length] at h; omega
    have HO7 := Lib.hid hown
    have K7 := Lib.hid (K5.out.below hb)
    have H7 := Lib.hid (H5.out.trans (hb.mono H5.out.size))
    have sz7 : w5.heap.size ≤ w7.heap.size := hb.size
    have lt6 : w.heap.size < w5.heap.size := K5.out.lt
    obtain ⟨a7, c7, rfl, _, _⟩ := Sl.ofOwn hown
    clear hown hb K5 H5 S5 p0 p1 p2 p3 p4 f0 f1 f2 f3 f4 lt5 HMM
    go_wp2_with fail
    have ld2 : ∀ w', Below w5.heap.size w7 w' → w'.cell? ⟨w.heap.size, 2, none⟩ = some (.string ⟨kb.toArray⟩) := fun w' h => (K7.out.belowB h lt6).box.c2
    have ld3 : ∀ w', Below w5.heap.size w7 w' → w'.cell? ⟨w.heap.size, 3, none⟩ = some (.slice a n cap) := fun w' h => (K7.out.belowB h lt6).box.c3
    have hSw : Below w5.heap.size w7 w7.drew := (Below.refl _ _).drew
    refine wp_region_lex (Below w5.heap.size w7) [(0, true), (1, true), (2, true), (4, true), (5, true), (3, false), (6, false), (7, true)] (by kernel_rfl) (by kernel_rfl) (fun c a d v w h => by cases d <;> exact h) ?_
    iterate 5
      refine lex_step (fun K hK => ?_)
      simp only [lexOp, List.getElem?_toArray, List.getElem?_cons_succ, List.getElem?_cons_zero]
      rw [if_pos (by rfl)]
      apply Exists.intro
      refine ⟨fun w' hS' => ?_, hSw, ?_⟩
      · first | (go_simp <;> with_reducible rfl) | (go_simp; go_bits; with_reducible rfl)
      go_simp
      try go_bits
      refine hK _ _ ?_
      clear hK K
    refine lex_step (fun K hK => ?_)
    simp only [lexOp, List.getElem?_toArray, List.getElem?_cons_succ, List.getElem?_cons_zero]
    rw [if_pos (by rfl)]
    change Oper.wp _ _ _ _ _ _
    refine wp_app1 oneB (ops := #[]) rfl _ _ _ rfl w5.heap.size _ 11 _ rfl HO7.out.drew _ kb.length (kb.map encB) rfl (strSrc _ kb) (by omega) (by unfold maxLen; omega) sz7 ?_
    intro v8 w8 hown8 _ hb8
    rw [← List.map_append] at hown8
    replace hSw : Below w5.heap.size w7 w8 := hSw.trans hb8
    obtain ⟨a8, c8, rfl, _, _⟩ := Sl.ofOwn hown8
    have HO8 := Lib.hid hown8
    clear hown8 hb8
    go_simp
    refine hK _ _ ?_
    clear hK K
    refine lex_step (fun K hK => ?_)
    simp only [lexOp, List.getElem?_toArray, List.getElem?_cons_succ, List.getElem?_cons_zero]
    rw [if_pos (by rfl)]
    change Oper.wp _ _ _ _ _ _
    refine wp_app1 oneB (ops := #[]) rfl _ _ _ rfl w5.heap.size _ (11 + kb.length) _ rfl HO8.out _ n (bs.map encB) rfl ((HE.out.below (H7.out.trans (hSw.mono (by omega)))).src encB_cell Try.underlying24 _) (by omega) (by unfold maxLen; omega) (by have := hSw.size; omega) ?_
    intro v9 w9 hown9 _ hb9
    rw [← List.map_append] at hown9
    replace hSw : Below w5.heap.size w7 w9 := hSw.trans hb9
    obtain ⟨a9, c9, rfl, hsl9, hc9⟩ := Sl.ofOwn hown9
    have S9 := Lib.hid hsl9
    clear hown9 hb9 hsl9
    go_simp
    refine hK _ _ ?_
    clear hK K
    iterate 1
      refine lex_step (fun K hK => ?_)
      simp only [lexOp, List.getElem?_toArray, List.getElem?_cons_succ, List.getElem?_cons_zero]
      rw [if_pos (by rfl)]
      apply Exists.intro
      refine ⟨fun w' hS' => ?_, hSw, ?_⟩
      · first | (go_simp <;> with_reducible rfl) | (go_simp; go_bits; with_reducible rfl)
      go_simp
      try go_bits
      refine hK _ _ ?_
      clear hK K
    refine lex_nil ?_
    rw [← HM.out] at S9
    have H9 := Lib.hid (H7.out.trans (hSw.mono (by omega)))
    clear ld2 ld3 hSw K7 H7 HO7 HO8
    have HF : Hid (recB u t kb bs c = recBody u t kb bs c ++ putB (sumN (recBody u t kb bs c)) 4) := rfl
    clear HM
    generalize recBody u t kb bs c = body at S9 HF
    have hsl2 := sumN_lt body
    have hm9 := refSum32_n w9 a9 _ c9 body S9.out (by omega)
    generalize sumN body = sm at HF hsl2 hm9
    have HM9 := Lib.hid hm9
    clear hm9
    go_wp2_with fail
    refine HM9.out.mono ?_
    rintro e w10 ⟨rfl, rfl⟩
    go_wp2_with fail
    refine (refPut_any _ a9 _ c9 body sm 4 S9.out (by omega) (by omega) (by omega) (by omega)).mono ?_
    rintro e w11 ⟨v11, m11, rfl, hown, hb⟩
    obtain ⟨a11, c11, rfl, hsl, hc11⟩ := Sl.ofOwn hown
    have H11 := Lib.hid (H9.out.trans (hb.mono H9.out.size))
    have HO11 := Lib.hid hown
    clear hown hb hsl
    go_wp2_with fail
    go_ret
    exact ⟨_, _, rfl, by rw [HF.out]; exact own_mono HO11.out H9.out.size, H11.out⟩
  · refine lexT_step (fun K hK => ?_)
    simp only [lexOp, List.getElem?_toArray, List.getElem?_cons_succ, List.getElem?_cons_zero]
    rw [if_pos (by rfl)]
    go_step
    replace hSw : Below (w.heap.size + 1) w3 (w3.drew.alloc (.cells #[.int .u8 c] 5)) := hSw.alloc (by simpa using sz3) _
    refine ⟨hSw, hK _ _ ?_⟩
    clear hK K
    have hsrc0 : Sl encB (w3.drew.alloc (.cells #[.int .u8 c] 5)) (some ⟨w3.heap.size, 0, none⟩) 1 [UInt8.ofNat c] := Sl.lit (heap_alloc_last w3.drew _) (by rw [encB_num c (by omega)]; rfl) rfl
    refine lexT_step (fun K hK => ?_)
    simp only [lexOp, List.getElem?_toArray, List.getElem?_cons_succ, List.getElem?_cons_zero]
    rw [if_pos (by rfl)]
    go_step
    refine (refPut_any _ a3 6 c3 _ n 2 (S3.out.below (((Below.refl _ _).drew).alloc (by simp) _)) (by omega) (by omega) (by omega) (by omega)).mono ?_
    rintro e w4 ⟨v4, m4, rfl, hown, hb⟩
    obtain rfl : m4 = 8 := by have h := hown.1; simp [putB_length] at h; omega
    obtain ⟨a4, c4, rfl, _, _⟩ := Sl.ofOwn hown
    have HO4 := Lib.hid (own_mono hown (show w.heap.size + 1 ≤ (w3.drew.alloc (.cells #[.int .u8 c] 5)).heap.size by simp; omega))
    replace hSw : Below (w.heap.size + 1) w3 w4 := hSw.trans (hb.mono (by simp; omega))
    have sz4 : w.heap.size + 1 ≤ w4.heap.size := by have := hSw.size; omega
    have hsrc := Lib.hid (hsrc0.below hb)
    clear hown hb hsrc0
    go_simp
    refine hK _ _ ?_
    clear hK K
    refine lexT_step (fun K hK => ?_)
    simp only [lexOp, List.getElem?_toArray, List.getElem?_cons_succ, List.getElem?_cons_zero]
    rw [if_pos (by rfl)]
    change Oper.wp _ _ _ _ _ _
    refine wp_app1 oneB (ops := #[]) rfl _ _ _ rfl (w.heap.size + 1) _ 8 _ rfl HO4.out _ 1 _ rfl (hsrc.out.src encB_cell Try.underlying24 _) (by omega) (by unfold maxLen; omega) sz4 ?_
    intro v5 w5 hown5 _ hb5
    rw [← List.map_append, ← putB_one c (by omega)] at hown5
    obtain ⟨a5, c5, rfl, hsl5, hc5⟩ := Sl.ofOwn hown5
    have hSw5 : Below (w.heap.size + 1) w3 w5 := hSw.trans hb5
    have S5 := Lib.hid hsl5
    have K5 := Lib.hid (K3.out.belowB hSw5 lt1)
    have H5 := Lib.hid (H3.out.trans (hSw5.mono (by omega)))
    have hSS : Below (w.heap.size + 1) w3 w5 := hSw5
    clear hown5 hb5 hsl5 hSw
    have hSw := hSS
    clear hSS hSw5
    go_simp
    refine hK _ _ ?_
    clear hK K
    iterate 1
      refine lexT_step (fun K hK => ?_)
      simp only [lexOp, List.getElem?_toArray, List.getElem?_cons_succ, List.getElem?_cons_zero]
      rw [if_pos (by rfl)]
      apply Exists.intro
      refine ⟨fun w' hS' => ?_, hSw, ?_⟩
      · first | (go_simp <;> with_reducible rfl) | (go_simp; go_bits; with_reducible rfl)
      go_simp
      try go_bits
      refine hK _ _ ?_
      clear hK K
    refine lexT_nil ?_
    have hHd : [u] ++ putB t 4 ++ putB kb.length 1 ++ putB n 2 ++ putB c 1 = recHd u t kb.length bs.length c := by rw [hbl]; rfl
    rw [hHd] at S5
    have HM : Hid (recBody u t kb bs c = recHd u t kb.length bs.length c ++ putB (crcN (recHd u t kb.length bs.length c)) 2 ++ kb ++ bs) := rfl
    have hhl := recHd_length u t kb.length bs.length c
    clear hHd HO4 hSw ld1 ld2 S3 K3 H3 hsrc
    generalize recHd u t kb.length bs.length c = hd at S5 HM hhl
    have hcl2 := crcN_lt hd
    have hmm := refSum16_n w5 a5 9 c5 hd S5.out (by omega)
    generalize crcN hd = cr at HM hcl2 hmm
    have HMM := Lib.hid hmm
    clear hmm
    obtain ⟨p0, p1, p2, p3, p4, f0, f1, f2, f3, f4, lt5⟩ := K5.out.box
    go_wp2_with fail
    refine HMM.out.mono ?_
    rintro e w6 ⟨rfl, rfl⟩
    go_wp2_with fail
    refine (refPut_any _ a5 9 c5 hd cr 2 S5.out (by omega) (by omega) (by omega) (by omega)).mono ?_
    rintro e w7 ⟨v7, m7, rfl, hown, hb⟩
    obtain rfl : m7 = 11 := by have h := hown.1; simp [putB_length] at h; omega
    have HO7 := Lib.hid hown
    have K7 := Lib.hid (K5.out.below hb)
    have H7 := Lib.hid (H5.out.trans (hb.mono H5.out.size))
    have sz7 : w5.heap.size ≤ w7.heap.size := hb.size
    have lt6 : w.heap.size < w5.heap.size := K5.out.lt
    obtain ⟨a7, c7, rfl, _, _⟩ := Sl.ofOwn hown
    clear hown hb K5 H5 S5 p0 p1 p2 p3 p4 f0 f1 f2 f3 f4 lt5 HMM
    go_wp2_with fail
    have ld2 : ∀ w', Below w5.heap.size w7 w' → w'.cell? ⟨w.heap.size, 2, none⟩ = some (.string ⟨kb.toArray⟩) := fun w' h => (K7.out.belowB h lt6).box.c2
    have ld3 : ∀ w', Below w5.heap.size w7 w' → w'.cell? ⟨w.heap.size, 3, none⟩ = some (.slice a n cap) := fun w' h => (K7.out.belowB h lt6).box.c3
    have hSw : Below w5.heap.size w7 w7.drew := (Below.refl _ _).drew
    refine wp_region_lex (Below w5.heap.size w7) [(0, true), (1, true), (2, true), (4, true), (5, true), (3, false), (6, false), (7, true)] (by kernel_rfl) (by kernel_rfl) (fun c a d v w h => by cases d <;> exact h) ?_
    iterate 5
      refine lex_step (fun K hK => ?_)
      simp only [lexOp, List.getElem?_toArray, List.getElem?_cons_succ, List.getElem?_cons_zero]
      rw [if_pos (by rfl)]
      apply Exists.intro
      refine ⟨fun w' hS' => ?_, hSw, ?_⟩
      · first | (go_simp <;> with_reducible rfl) | (go_simp; go_bits; with_reducible rfl)
      go_simp
      try go_bits
      refine hK _ _ ?_
      clear hK K
    refine lex_step (fun K hK => ?_)
    simp only [lexOp, List.getElem?_toArray, List.getElem?_cons_succ, List.getElem?_cons_zero]
    rw [if_pos (by rfl)]
    change Oper.wp _ _ _ _ _ _
    refine wp_app1 oneB (ops := #[]) rfl _ _ _ rfl w5.heap.size _ 11 _ rfl HO7.out.drew _ kb.length (kb.map encB) rfl (strSrc _ kb) (by omega) (by unfold maxLen; omega) sz7 ?_
    intro v8 w8 hown8 _ hb8
    rw [← List.map_append] at hown8
    replace hSw : Below w5.heap.size w7 w8 := hSw.trans hb8
    obtain ⟨a8, c8, rfl, _, _⟩ := Sl.ofOwn hown8
    have HO8 := Lib.hid hown8
    clear hown8 hb8
    go_simp
    refine hK _ _ ?_
    clear hK K
    refine lex_step (fun K hK => ?_)
    simp only [lexOp, List.getElem?_toArray, List.getElem?_cons_succ, List.getElem?_cons_zero]
    rw [if_pos (by rfl)]
    change Oper.wp _ _ _ _ _ _
    refine wp_app1 oneB (ops := #[]) rfl _ _ _ rfl w5.heap.size _ (11 + kb.length) _ rfl HO8.out _ n (bs.map encB) rfl ((HE.out.below (H7.out.trans (hSw.mono (by omega)))).src encB_cell Try.underlying24 _) (by omega) (by unfold maxLen; omega) (by have := hSw.size; omega) ?_
    intro v9 w9 hown9 _ hb9
    rw [← List.map_append] at hown9
    replace hSw : Below w5.heap.size w7 w9 := hSw.trans hb9
    obtain ⟨a9, c9, rfl, hsl9, hc9⟩ := Sl.ofOwn hown9
    have S9 := Lib.hid hsl9
    clear hown9 hb9 hsl9
    go_simp
    refine hK _ _ ?_
    clear hK K
    iterate 1
      refine lex_step (fun K hK => ?_)
      simp only [lexOp, List.getElem?_toArray, List.getElem?_cons_succ, List.getElem?_cons_zero]
      rw [if_pos (by rfl)]
      apply Exists.intro
      refine ⟨fun w' hS' => ?_, hSw, ?_⟩
      · first | (go_simp <;> with_reducible rfl) | (go_simp; go_bits; with_reducible rfl)
      go_simp
      try go_bits
      refine hK _ _ ?_
      clear hK K
    refine lex_nil ?_
    rw [← HM.out] at S9
    have H9 := Lib.hid (H7.out.trans (hSw.mono (by omega)))
    clear ld2 ld3 hSw K7 H7 HO7 HO8
    have HF : Hid (recB u t kb bs c = recBody u t kb bs c ++ putB (sumN (recBody u t kb bs c)) 4) := rfl
    clear HM
    generalize recBody u t kb bs c = body at S9 HF
    have hsl2 := sumN_lt body
    have hm9 := refSum32_n w9 a9 _ c9 body S9.out (by omega)
    generalize sumN body = sm at HF hsl2 hm9
    have HM9 := Lib.hid hm9
    clear hm9
    go_wp2_with fail
    refine HM9.out.mono ?_
    rintro e w10 ⟨rfl, rfl⟩
    go_wp2_with fail
    refine (refPut_any _ a9 _ c9 body sm 4 S9.out (by omega) (by omega) (by omega) (by omega)).mono ?_
    rintro e w11 ⟨v11, m11, rfl, hown, hb⟩
    obtain ⟨a11, c11, rfl, hsl, hc11⟩ := Sl.ofOwn hown
    have H11 := Lib.hid (H9.out.trans (hb.mono H9.out.size))
    have HO11 := Lib.hid hown
    clear hown hb hsl
    go_wp2_with fail
    go_ret
    exact ⟨_, _, rfl, by rw [HF.out]; exact own_mono HO11.out H9.out.size, H11.out⟩
theorem refBytes5_any (w : World) (u : UInt8) (t : Nat) (kb : List UInt8) (a : Option Addr) (n cap : Nat) (bs : List UInt8) (c : Nat) (hs : Sl encB w a n bs) (h : recOk u.toNat t kb.length n c = true) (ht : t < 4294967296) :
    Calls Try.prog 7 #[recL u.toNat t kb a n cap c] w fun e w' => ∃ a' n' cap', e = .returned (.slice a' n' cap') ∧ Sl encB w' a' n' (recB u t kb bs c) ∧ n' ≤ cap' ∧ Below w.heap.size w w' :=
  (refBytes5_own w u t kb a n cap bs c hs h ht).mono fun e w' ⟨v, m, he, hown, hb⟩ => by
    obtain ⟨a', c', rfl, hsl, hc⟩ := Sl.ofOwn hown
    exact ⟨a', m, c', he, hsl, hc, hb⟩
end Go.Proofs.Ytechkdnoekffmaa
