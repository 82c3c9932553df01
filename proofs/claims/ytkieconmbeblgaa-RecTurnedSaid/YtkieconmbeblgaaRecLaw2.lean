/- rec: the walk of RecMakes. No condition. -/
import Derived.Test.YtkieconmbeblgaaRecLaw
import Derived.Test.YtkieconmbeblgaaRecOpen
import Derived.Test.YtkieconmbeblgaaRegionS
namespace Go.Proofs.Ytkieconmbeblgaa
open Go.ChangeShapes Go.WideShapes Go.ChangeAt Go.RowKit
theorem Bs.ofRow' {w : World} {a : Option Addr} {len cap : Nat} {zs : List Int} (h : IsRow .u8 w a len cap zs) : ∃ bs, Sl encB w a len bs ∧ len ≤ maxLen ∧ len ≤ cap := by
  obtain ⟨bs, h1, h2⟩ := Bs.ofRow h
  exact ⟨bs, h1.sl, h2, Row.cap h⟩
theorem Blk5.cells {w : World} {g : Nat} {x y z u v : Value} {t : TypeId} (h : Blk5 w g x y z u v t) :
    w.cell? ⟨g, 0, none⟩ = some x ∧ w.cell? ⟨g, 1, none⟩ = some y ∧ w.cell? ⟨g, 2, none⟩ = some z ∧ w.cell? ⟨g, 3, none⟩ = some u ∧ w.cell? ⟨g, 4, none⟩ = some v := ⟨h.box.c0, h.box.c1, h.box.c2, h.box.c3, h.box.c4⟩
theorem Sl.ofOwnS {α : Type} {enc : α → Value} {w : World} {base : Nat} {e : TypeId} {a : Option Addr} {n c : Nat} {xs : List α} (h : w.ownsRow base e 1 (.slice a n c) n (xs.map enc)) : Sl enc w a n xs ∧ n ≤ c := by
  obtain ⟨a', c', he, hs, hc⟩ := Sl.ofOwn h
  cases he
  exact ⟨hs, hc⟩
theorem recOk_nums {k t : Int} {key blob : Nat} {c : Int} (h : recOk k t key blob c = true) (ht : t < 4294967296) : ∃ (u : UInt8) (t' c' : Nat), k = u.toNat ∧ t = t' ∧ c = c' ∧ t' < 4294967296 ∧ key ≤ 64 ∧ blob ≤ 4096 := by
  have hd := of_decide_eq_true h
  have hk : 0 ≤ k ∧ k < 256 := by omega
  refine ⟨UInt8.ofNat k.toNat, t.toNat, c.toNat, ?_, by omega, by omega, by omega, by omega, by omega⟩
  rw [UInt8.toNat_ofNat_of_lt' (by show _ < 256; omega)]; omega
set_option maxRecDepth 100000 in
set_option maxHeartbeats 8000000 in
theorem walk0_RecMakes (k t : Int) (kb : List UInt8) (a : Option Addr) (n cap : Nat) (z : List Int) (c last : Int) (a2 : Option Addr) (n2 cap2 : Nat) (z2 : List Int) (w : World)
    (hk : (Lit.int .i64 k).wf = true) (ht : (Lit.int .u32 t).wf = true) (hc : (Lit.int .i64 c).wf = true) (hl : (Lit.int .u8 last).wf = true) (hkb : kb.length ≤ maxLen) (h0 : IsRow .u8 w a n cap z) (h2 : IsRow .u8 w a2 n2 cap2 z2) :
    Calls Try.prog 5 #[recL k t kb a n cap c, .int .u8 last, .slice a2 n2 cap2] w fun e w' => e = .returned (.bool true) ∧ Below w.heap.size w w' := by
  have HK : Hid (IntR k) := bounds_i64 hk
  have HC : Hid (IntR c) := bounds_i64 hc
  have ht0 := bounds_u32 ht
  obtain ⟨last, rfl⟩ : ∃ u : UInt8, last = u.toNat := ⟨_, u8_of_int hl⟩
  obtain ⟨bs, hs, hn, hcap⟩ := Bs.ofRow' h0
  obtain ⟨more, hs2, hn2, hcap2⟩ := Bs.ofRow' h2
  have S := Lib.hid hs
  have S2 := Lib.hid hs2
  have hbl := hs.1
  have hml := hs2.1
  unfold maxLen at hn hn2 hkb
  have HL := Lib.hid hbl
  have HML := Lib.hid hml
  clear hk hc ht hl h0 h2 hs hs2 hbl hml
  have H := Lib.hid ((Below.refl w.heap.size w).alloc (Nat.le_refl _) (.cells #[.int .i64 k, .int .u32 t, .string ⟨kb.toArray⟩, .slice a n cap, .int .i64 c] 26))
  have K := Lib.hid (show Blk5 (w.alloc (.cells #[.int .i64 k, .int .u32 t, .string ⟨kb.toArray⟩, .slice a n cap, .int .i64 c] 26)) w.heap.size (.int .i64 k) (.int .u32 t) (.string ⟨kb.toArray⟩) (.slice a n cap) (.int .i64 c) 26 from heap_alloc_last w _)
  replace S := Lib.hid (S.out.below H.out)
  replace S2 := Lib.hid (S2.out.below H.out)
  go_enter Try.func5, Try.ntmps5
  go_wp2_with fail
  refine (fixed05_any _).mono ?_
  rintro e w1 ⟨rfl, hb⟩
  replace K := Lib.hid (K.out.below hb)
  replace S := Lib.hid (S.out.below hb)
  replace S2 := Lib.hid (S2.out.below hb)
  replace H := Lib.hid (H.out.trans (hb.mono H.out.size))
  clear hb
  obtain ⟨p0, p1, p2, p3, p4, f0, f1, f2, f3, f4, lt1⟩ := K.out.box
  by_cases q1 : 300 < kb.length
  · go_wp2_with fail
    go_ret
    exact ⟨rfl, H.out⟩
  by_cases q2 : 5000 < n
  · go_wp2_with fail
    go_ret
    exact ⟨rfl, H.out⟩
  by_cases q3 : 300 < n2
  · go_wp2_with fail
    go_ret
    exact ⟨rfl, H.out⟩
  have e1 : decide ((300 : Int) < (kb.length : Int)) = false := decide_eq_false (by omega)
  have e2 : decide ((5000 : Int) < (n : Int)) = false := decide_eq_false (by omega)
  have e3 : decide ((300 : Int) < (n2 : Int)) = false := decide_eq_false (by omega)
  cases hr : recOk k t kb.length n c with
  | false =>
    have HR := Lib.hid hr
    clear hr
    go_wp2_with fail
    refine (Bytes5_no _ k t kb a n cap c HK.out ht0.1 HC.out (by omega) (by omega) HR.out).mono ?_
    rintro e w2 ⟨rfl, hb⟩
    have hbK : Below w1.heap.size w1 w2 := by first | exact hb | exact (Below.refl _ _).drew.trans (hb.mono (by simp)) | exact ((Below.refl _ _).alloc (Nat.le_refl _) _).trans (hb.mono (by simp)) | exact (((Below.refl _ _).alloc (Nat.le_refl _) _).alloc (by simp) _).trans (hb.mono (by simp; omega)) | exact ((((Below.refl _ _).alloc (Nat.le_refl _) _).alloc (by simp) _).alloc (by simp; omega) _).trans (hb.mono (by simp; omega))
    replace K := Lib.hid (K.out.below hbK)
    replace S := Lib.hid (S.out.below hbK)
    replace S2 := Lib.hid (S2.out.below hbK)
    replace H := Lib.hid (H.out.trans (hbK.mono H.out.size))
    clear hbK
    clear hb p0 p1 p2 p3 p4 f0 f1 f2 f3 f4 lt1
    obtain ⟨p0, p1, p2, p3, p4, f0, f1, f2, f3, f4, lt1⟩ := K.out.box
    go_wp2_with fail
    have h3 := refRight5_any w2 k t kb a n cap c HK.out ht0.1 HC.out (by omega) (by omega)
    rw [HR.out] at h3
    refine h3.mono ?_
    clear h3
    rintro e w3 ⟨rfl, hb⟩
    have hbK : Below w2.heap.size w2 w3 := by first | exact hb | exact (Below.refl _ _).drew.trans (hb.mono (by simp)) | exact ((Below.refl _ _).alloc (Nat.le_refl _) _).trans (hb.mono (by simp)) | exact (((Below.refl _ _).alloc (Nat.le_refl _) _).alloc (by simp) _).trans (hb.mono (by simp; omega)) | exact ((((Below.refl _ _).alloc (Nat.le_refl _) _).alloc (by simp) _).alloc (by simp; omega) _).trans (hb.mono (by simp; omega))
    replace K := Lib.hid (K.out.below hbK)
    replace S := Lib.hid (S.out.below hbK)
    replace S2 := Lib.hid (S2.out.below hbK)
    replace H := Lib.hid (H.out.trans (hbK.mono H.out.size))
    clear hbK
    clear hb p0 p1 p2 p3 p4 f0 f1 f2 f3 f4 lt1
    go_wp2_with fail
    go_ret
    exact ⟨rfl, H.out⟩
  | true =>
    obtain ⟨u, t, c, rfl, rfl, rfl, ht1, hk64, hb4⟩ := recOk_nums hr (by omega)
    have HR := Lib.hid hr
    clear hr
    go_wp2_with fail
    refine (Bytes5_any _ u t kb a n cap bs c S.out HR.out ht1).mono ?_
    rintro e w2 ⟨a3, n3, c3, rfl, hs3, hc3, hb⟩
    have hl3 := hs3.1
    rw [recB_length, HL.out] at hl3
    obtain rfl := hl3
    have S3 := Lib.hid hs3
    have hbK : Below w1.heap.size w1 w2 := by first | exact hb | exact (Below.refl _ _).drew.trans (hb.mono (by simp)) | exact ((Below.refl _ _).alloc (Nat.le_refl _) _).trans (hb.mono (by simp)) | exact (((Below.refl _ _).alloc (Nat.le_refl _) _).alloc (by simp) _).trans (hb.mono (by simp; omega)) | exact ((((Below.refl _ _).alloc (Nat.le_refl _) _).alloc (by simp) _).alloc (by simp; omega) _).trans (hb.mono (by simp; omega))
    replace K := Lib.hid (K.out.below hbK)
    replace S := Lib.hid (S.out.below hbK)
    replace S2 := Lib.hid (S2.out.below hbK)
    replace H := Lib.hid (H.out.trans (hbK.mono H.out.size))
    clear hbK
    clear hb hs3 p0 p1 p2 p3 p4 f0 f1 f2 f3 f4 lt1
    obtain ⟨p0, p1, p2, p3, p4, f0, f1, f2, f3, f4, lt1⟩ := K.out.box
    go_wp2_with fail
    have h3 := refRight5_any w2 u.toNat t kb a n cap c HK.out ht0.1 HC.out (by omega) (by omega)
    rw [HR.out] at h3
    refine h3.mono ?_
    clear h3
    rintro e w3 ⟨rfl, hb⟩
    have hbK : Below w2.heap.size w2 w3 := by first | exact hb | exact (Below.refl _ _).drew.trans (hb.mono (by simp)) | exact ((Below.refl _ _).alloc (Nat.le_refl _) _).trans (hb.mono (by simp)) | exact (((Below.refl _ _).alloc (Nat.le_refl _) _).alloc (by simp) _).trans (hb.mono (by simp; omega)) | exact ((((Below.refl _ _).alloc (Nat.le_refl _) _).alloc (by simp) _).alloc (by simp; omega) _).trans (hb.mono (by simp; omega))
    replace K := Lib.hid (K.out.below hbK)
    replace S := Lib.hid (S.out.below hbK)
    replace S2 := Lib.hid (S2.out.below hbK)
    replace S3 := Lib.hid (S3.out.below hbK)
    replace H := Lib.hid (H.out.trans (hbK.mono H.out.size))
    clear hbK
    clear hb p0 p1 p2 p3 p4 f0 f1 f2 f3 f4 lt1
    have HO := Lib.hid (own_empty w3 w3.heap.size 5 (Nat.le_refl _))
    have HB := Lib.hid ((Below.refl w3.heap.size w3).alloc (Nat.le_refl _) (.cells #[] 5))
    go_wp2_with (at_builtin; first
      | (refine wpList_app1 oneB rfl _ _ _ rfl w3.heap.size _ _ _ rfl HO.out _ _ _ rfl ((S3.out.below HB.out).src encB_cell Try.underlying22 _) (by omega) (by unfold maxLen; omega) HB.out.size ?_; intro v4 w4 hown4 hg4 hb4; rw [List.map_nil, List.nil_append, Nat.zero_add] at hown4; have HO4 := Lib.hid hown4; have HB4 := Lib.hid (HB.out.trans hb4); clear HO HB hown4 hg4 hb4)
      | (refine wpList_app_lit oneB rfl _ _ rfl w3.heap.size _ _ _ rfl HO4.out _ 1 _ rfl rfl rfl (by omega) (by unfold maxLen; omega) HB4.out.size ?_; intro v5 w5 hown5 hg5 hb5; have HO5 := Lib.hid hown5; have HB5 := Lib.hid (HB4.out.trans hb5); clear HO4 HB4 hown5 hg5 hb5)
      | (refine wpList_app1 oneB rfl _ _ _ rfl w3.heap.size _ _ _ rfl HO5.out _ _ _ rfl ((S2.out.below HB5.out).src encB_cell Try.underlying22 _) (by omega) (by unfold maxLen; omega) HB5.out.size ?_; intro v6 w6 hown6 hg6 hb6; have hown6' : w6.ownsRow w3.heap.size 5 1 v6 (15 + kb.length + n + 1 + n2) ((recB u t kb bs c ++ last :: more).map encB) := (by rw [List.map_append, List.map_cons]; simpa [encB] using hown6); obtain ⟨a6, c6, hv6, hsl6, hc6⟩ := Sl.ofOwn hown6'; subst hv6; have S6 := Lib.hid hsl6; have HB6 := Lib.hid (HB5.out.trans hb6); clear HO5 HB5 hown6 hown6' hg6 hb6 hsl6))
    have h7 := Parse_rec w6 a6 (15 + kb.length + n + 1 + n2) c6 u t kb bs c last more S6.out (by omega) hc6 (by rw [HL.out]; exact HR.out) ht1
    rw [HL.out] at h7
    refine h7.mono ?_
    clear h7
    rintro e w7 ⟨a7, m7, c7, rfl, hown7, hb⟩
    have hsl7 := (Sl.ofOwnS hown7).1
    obtain rfl : m7 = n := by have := hsl7.1; rw [HL.out] at this; exact this.symm
    have S7 := Lib.hid hsl7
    have hbK : Below w3.heap.size w3 w6 := by first | exact HB6.out | exact (Below.refl _ _).drew.trans (HB6.out.mono (by simp)) | exact ((Below.refl _ _).alloc (Nat.le_refl _) _).trans (HB6.out.mono (by simp)) | exact (((Below.refl _ _).alloc (Nat.le_refl _) _).alloc (by simp) _).trans (HB6.out.mono (by simp; omega)) | exact ((((Below.refl _ _).alloc (Nat.le_refl _) _).alloc (by simp) _).alloc (by simp; omega) _).trans (HB6.out.mono (by simp; omega))
    replace K := Lib.hid (K.out.below hbK)
    replace S := Lib.hid (S.out.below hbK)
    replace S3 := Lib.hid (S3.out.below hbK)
    replace H := Lib.hid (H.out.trans (hbK.mono H.out.size))
    clear hbK
    have hbK : Below w6.heap.size w6 w7 := by first | exact hb | exact (Below.refl _ _).drew.trans (hb.mono (by simp)) | exact ((Below.refl _ _).alloc (Nat.le_refl _) _).trans (hb.mono (by simp)) | exact (((Below.refl _ _).alloc (Nat.le_refl _) _).alloc (by simp) _).trans (hb.mono (by simp; omega)) | exact ((((Below.refl _ _).alloc (Nat.le_refl _) _).alloc (by simp) _).alloc (by simp; omega) _).trans (hb.mono (by simp; omega))
    replace K := Lib.hid (K.out.below hbK)
    replace S := Lib.hid (S.out.below hbK)
    replace S3 := Lib.hid (S3.out.below hbK)
    replace H := Lib.hid (H.out.trans (hbK.mono H.out.size))
    clear hbK
    clear hb hown7 hsl7 HB6 S6 S2 hc6
    go_wp2_with fail
    have hb : Below w7.heap.size w7 (w7.alloc (.cells #[.int .i64 u.toNat, .int .u32 t, .string ⟨kb.toArray⟩, .slice a7 m7 c7, .int .i64 c] 26)) := (Below.refl _ _).alloc (Nat.le_refl _) _
    have K9 := Lib.hid (show Blk5 (w7.alloc (.cells #[.int .i64 u.toNat, .int .u32 t, .string ⟨kb.toArray⟩, .slice a7 m7 c7, .int .i64 c] 26)) w7.heap.size (.int .i64 u.toNat) (.int .u32 t) (.string ⟨kb.toArray⟩) (.slice a7 m7 c7) (.int .i64 c) 26 from heap_alloc_last w7 _)
    replace K := Lib.hid (K.out.below hb)
    replace S := Lib.hid (S.out.below hb)
    replace S3 := Lib.hid (S3.out.below hb)
    replace S7 := Lib.hid (S7.out.below hb)
    replace H := Lib.hid (H.out.trans (hb.mono H.out.size))
    clear hb
    generalize (w7.alloc (.cells #[.int .i64 u.toNat, .int .u32 t, .string ⟨kb.toArray⟩, .slice a7 m7 c7, .int .i64 c] 26)) = W at *
    have L1 := fun w' (h : Below W.heap.size W w') => (K.out.below h).cells
    have L2 := fun w' (h : Below W.heap.size W w') => (K9.out.below h).cells
    have cv1 : ∀ w', Below W.heap.size W w' → (convert 22 9 (.slice a3 (15 + kb.length + m7) c3)).run Try.prog w' = .ok (.string ⟨(recB u t kb bs c).toArray⟩) w' := fun w' h => run_conv (S3.out.below h) c3
    have hSw : Below W.heap.size W W.drew := (Below.refl _ _).drew
    refine wp_region_lexS (Below W.heap.size W) (.of [(0, true), (1, true), (2, true), (3, true), (4, true), (5, true), (6, true), (7, true), (8, true), (9, true), (10, false)] (.stir [(11, true), (12, true), (13, true), (14, true), (15, true), (16, false), (17, true), (18, false), (19, true), (20, true), (21, true), (22, true), (23, true), (24, true), (25, true), (26, true), (27, true), (28, true), (29, true), (30, true), (31, true), (32, true), (33, true), (34, true), (35, true), (36, true), (37, false), (38, true), (39, true)])) (by kernel_rfl) (by kernel_rfl) (fun c a d v w h => by cases d <;> exact h) ?_
    iterate 10
      refine lexS_step (fun K hK => ?_)
      simp only [lexOp, List.getElem?_toArray, List.getElem?_cons_succ, List.getElem?_cons_zero]
      rw [if_pos (by rfl)]
      apply Exists.intro
      refine ⟨fun w' hS' => ?_, hSw, ?_⟩
      · first | (go_simp <;> with_reducible rfl) | (go_simp; go_bits; with_reducible rfl)
      go_simp
      try go_bits
      refine hK _ _ ?_
      clear hK K
    refine lexS_step (fun K hK => ?_)
    simp only [lexOp, List.getElem?_toArray, List.getElem?_cons_succ, List.getElem?_cons_zero]
    rw [if_pos (by rfl)]
    go_step
    refine (refBytes5_any W.drew u t kb a m7 cap bs c (S.out.below hSw) HR.out ht1).mono ?_
    rintro e w8 ⟨a8, n8, c8, rfl, hs8, hc8, hb8⟩
    replace hSw : Below W.heap.size W w8 := hSw.trans (hb8.mono (by simp))
    refine ⟨hSw, ?_⟩
    go_simp
    refine hK _ _ ?_
    clear hK K
    obtain rfl : n8 = 15 + kb.length + m7 := by have := hs8.1; rw [recB_length, HL.out] at this; exact this.symm
    have S8 := Lib.hid hs8
    have hbK : Below W.heap.size W w8 := by first | exact hSw | exact (Below.refl _ _).drew.trans (hSw.mono (by simp)) | exact ((Below.refl _ _).alloc (Nat.le_refl _) _).trans (hSw.mono (by simp)) | exact (((Below.refl _ _).alloc (Nat.le_refl _) _).alloc (by simp) _).trans (hSw.mono (by simp; omega)) | exact ((((Below.refl _ _).alloc (Nat.le_refl _) _).alloc (by simp) _).alloc (by simp; omega) _).trans (hSw.mono (by simp; omega))
    replace K := Lib.hid (K.out.below hbK)
    replace K9 := Lib.hid (K9.out.below hbK)
    replace S := Lib.hid (S.out.below hbK)
    replace S3 := Lib.hid (S3.out.below hbK)
    replace S7 := Lib.hid (S7.out.below hbK)
    replace H := Lib.hid (H.out.trans (hbK.mono H.out.size))
    clear hbK
    clear hs8 hb8 L1 L2 cv1
    have hSS : ∀ x, Below w8.heap.size w8 x → Below W.heap.size W x := fun x hx => hSw.trans (hx.mono hSw.size)
    refine lexS_stir (Below w8.heap.size w8) hSS (Below.refl _ _) ?_
    clear hSS hSw
    have L1 := fun w' (h : Below w8.heap.size w8 w') => (K.out.below h).cells
    have L2 := fun w' (h : Below w8.heap.size w8 w') => (K9.out.below h).cells
    have cv1 : ∀ w', Below w8.heap.size w8 w' → (convert 22 9 (.slice a8 (15 + kb.length + m7) c8)).run Try.prog w' = .ok (.string ⟨(recB u t kb bs c).toArray⟩) w' := fun w' h => run_conv (S8.out.below h) c8
    iterate 5
      refine stir_step (fun K hK => ?_)
      simp only [stirOp, List.getElem?_toArray, List.getElem?_cons_succ, List.getElem?_cons_zero]
      rw [if_pos (by rfl)]
      apply Exists.intro
      refine ⟨fun w' hS' => ?_, ?_⟩
      · first | (go_simp <;> with_reducible rfl) | (go_simp; go_bits; with_reducible rfl)
      go_simp
      try go_bits
      refine hK _ ?_
      clear hK K
    refine stir_step (fun K hK => ?_)
    simp only [stirOp, List.getElem?_toArray, List.getElem?_cons_succ, List.getElem?_cons_zero]
    rw [if_pos (by rfl)]
    apply Exists.intro
    refine ⟨fun w' hS' => ?_, ?_⟩
    · go_simp
      exact Stirs.call (Calls.mono (Size_any w' u.toNat t kb a m7 cap c (by omega) (by omega)) fun e w'' h => ⟨h.1, (fun hb'' => hS'.trans (hb''.mono hS'.size)) h.2⟩)
    go_simp
    refine hK _ ?_
    clear hK K
    iterate 1
      refine stir_step (fun K hK => ?_)
      simp only [stirOp, List.getElem?_toArray, List.getElem?_cons_succ, List.getElem?_cons_zero]
      rw [if_pos (by rfl)]
      apply Exists.intro
      refine ⟨fun w' hS' => ?_, ?_⟩
      · first | (go_simp <;> with_reducible rfl) | (go_simp; go_bits; with_reducible rfl)
      go_simp
      try go_bits
      refine hK _ ?_
      clear hK K
    refine stir_step (fun K hK => ?_)
    simp only [stirOp, List.getElem?_toArray, List.getElem?_cons_succ, List.getElem?_cons_zero]
    rw [if_pos (by rfl)]
    apply Exists.intro
    refine ⟨fun w' hS' => ?_, ?_⟩
    · go_simp
      exact Stirs.call (Calls.mono (Size5_any w' u.toNat t kb a m7 cap c (by omega) (by omega)) fun e w'' h => ⟨h.1, (fun hb'' => hS'.trans (hb''.mono hS'.size)) h.2⟩)
    go_simp
    refine hK _ ?_
    clear hK K
    have e5 : ((11 : Int) + (kb.length : Int) + (m7 : Int) + 5 == 15 + (kb.length : Int) + (m7 : Int) + 1) = true := eqi_yes (by omega)
    iterate 18
      refine stir_step (fun K hK => ?_)
      simp only [stirOp, List.getElem?_toArray, List.getElem?_cons_succ, List.getElem?_cons_zero]
      rw [if_pos (by rfl)]
      apply Exists.intro
      refine ⟨fun w' hS' => ?_, ?_⟩
      · first | (go_simp <;> with_reducible rfl) | (go_simp; go_bits; with_reducible rfl)
      go_simp
      try go_bits
      refine hK _ ?_
      clear hK K
    refine stir_step (fun K hK => ?_)
    simp only [stirOp, List.getElem?_toArray, List.getElem?_cons_succ, List.getElem?_cons_zero]
    rw [if_pos (by rfl)]
    apply Exists.intro
    refine ⟨fun w' hS' => ?_, ?_⟩
    · go_simp
      exact Stirs.call (Calls.mono (Same5_yes w' u.toNat t kb a7 m7 c7 c bs a m7 cap (S7.out.below hS') (S.out.below hS')) fun e w'' h => ⟨h.1, (fun hb'' => hS'.trans (hb''.mono hS'.size)) h.2⟩)
    go_simp
    refine hK _ ?_
    clear hK K
    iterate 2
      refine stir_step (fun K hK => ?_)
      simp only [stirOp, List.getElem?_toArray, List.getElem?_cons_succ, List.getElem?_cons_zero]
      rw [if_pos (by rfl)]
      apply Exists.intro
      refine ⟨fun w' hS' => ?_, ?_⟩
      · first | (go_simp <;> with_reducible rfl) | (go_simp; go_bits; with_reducible rfl)
      go_simp
      try go_bits
      refine hK _ ?_
      clear hK K
    refine stir_nil (fun w9 h9 => ?_)
    have H9 := Lib.hid (H.out.trans (h9.mono H.out.size))
    go_wp2_with fail
    go_ret
    exact ⟨rfl, H9.out⟩
theorem bytes_list (ks : ByteArray) : ∃ kb : List UInt8, ks = ⟨kb.toArray⟩ ∧ kb.length = ks.size := ⟨ks.data.toList, by cases ks; simp, Array.length_toList⟩
theorem walk_RecMakes (k t : Int) (ks : ByteArray) (a : Option Addr) (n cap : Nat) (z : List Int) (c last : Int) (a2 : Option Addr) (n2 cap2 : Nat) (z2 : List Int) (w : World)
    (hk : (Lit.int .i64 k).wf = true) (ht : (Lit.int .u32 t).wf = true) (hks : ks.size ≤ maxLen) (h0 : IsRow .u8 w a n cap z) (hc : (Lit.int .i64 c).wf = true) (hl : (Lit.int .u8 last).wf = true) (h2 : IsRow .u8 w a2 n2 cap2 z2) :
    Calls Try.prog 5 #[.agg #[.int .i64 k, .int .u32 t, .string ks, .slice a n cap, .int .i64 c], .int .u8 last, .slice a2 n2 cap2] w fun e w' => e = .returned (.bool true) ∧ Below w.heap.size w w' := by
  obtain ⟨kb, rfl, hkb⟩ := bytes_list ks
  exact walk0_RecMakes k t kb a n cap z c last a2 n2 cap2 z2 w hk ht hc hl (by omega) h0 h2
end Go.Proofs.Ytkieconmbeblgaa
