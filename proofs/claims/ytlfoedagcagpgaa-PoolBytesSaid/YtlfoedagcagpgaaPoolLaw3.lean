/- pool: the walk of PoolBytes. No condition. -/
import Derived.Test.YtlfoedagcagpgaaPoolRef2
import Derived.Test.YtlfoedagcagpgaaPoolOpen
import Derived.Test.YtlfoedagcagpgaaRegionS
import Derived.Test.YtlfoedagcagpgaaBytesOpen
namespace Go.Proofs.Ytlfoedagcagpgaa
open Go.ChangeShapes Go.WideShapes Go.ChangeAt Go.RowKit
theorem oneK_len (c : KV) : (oneK c).length ≤ c.s.length + 9 := by
  unfold oneK
  split
  · simp
  rw [List.length_cons]
  split
  · rw [List.length_append, putB_length]; omega
  split
  · rw [putB_length]; omega
  split
  · rw [putB_length]; omega
  split
  · rw [putB_length]; omega
  · rw [List.length_append, putB_length, putB_length]; omega
theorem flat_len_le (L : List KV) (h : ∀ c ∈ L, c.s.length ≤ 2000) : (L.flatMap oneK).length ≤ 2009 * L.length := by
  induction L with
  | nil => simp
  | cons c L ih =>
    rw [List.flatMap_cons, List.length_append, List.length_cons]
    have h1 := oneK_len c
    have h2 := h c (by simp)
    have h3 := ih (fun d hd => h d (by simp [hd]))
    omega
theorem bytesK_len (L : List KV) (h : ∀ c ∈ L, c.s.length ≤ 2000) : (bytesK L).length ≤ 2 + 2009 * L.length := by
  unfold bytesK
  rw [List.length_append, putB_length]
  have := flat_len_le L h
  omega
theorem wf_i64 {n : Int} (h : (Lit.int .i64 n).wf = true) : -9223372036854775808 ≤ n ∧ n ≤ 9223372036854775807 := by
  unfold Lit.wf at h
  simp only [Bool.and_eq_true, decide_eq_true_eq] at h
  exact h
theorem more_sl {w : World} {a : Option Addr} {n cap : Nat} {z : List Int} (h : IsRow .u8 w a n cap z) : ∃ bs, Sl encB w a n bs ∧ n ≤ cap ∧ n ≤ maxLen := by
  obtain ⟨bs, hb, hm⟩ := Bs.ofRow h
  exact ⟨bs, hb.sl, Row.cap h, hm⟩
set_option maxRecDepth 100000 in
set_option maxHeartbeats 8000000 in
theorem walk_PoolBytes (a : Option Addr) (n cap : Nat) (a' : Option Addr) (n' cap' : Nat) (z' : List Int) (w : World) (h0 : IsKs w a n cap) (h1 : IsRow .u8 w a' n' cap' z') :
    Calls Try.prog 5 #[.slice a n cap, .slice a' n' cap'] w fun e w' => e = .returned (.bool true) ∧ Below w.heap.size w w' := by
  obtain ⟨hnc, hnm, L, hk, hwf⟩ := h0
  obtain ⟨ms, hs', hcap', hm'⟩ := more_sl h1
  have HF := Lib.hid (fixed11 w)
  have HK := Lib.hid hk
  have HLn := Lib.hid hk.1
  have HS' := Lib.hid hs'
  have HWF := Lib.hid (show ∀ c ∈ L, -9223372036854775808 ≤ c.n ∧ c.n ≤ 9223372036854775807 from fun c hc => wf_i64 (hwf c hc).2.2.2)
  clear hk h1 hs' hwf
  unfold maxLen at hm'
  go_enter Try.func5, Try.ntmps5
  go_wp2_with fail
  refine HF.out.mono ?_
  rintro e w1 ⟨rfl, hb1⟩
  have HB1 := Lib.hid hb1
  have HE := Lib.hid (few_any w1 a n cap L (HK.out.below hb1) hnm)
  clear hb1
  go_wp2_with fail
  refine HE.out.mono ?_
  rintro e w2 ⟨rfl, hb2⟩
  have HB2 := Lib.hid (HB1.out.trans (hb2.mono HB1.out.size))
  clear hb2
  cases hfew : fewB L
  · clear hfew
    go_wp2_with fail
    go_ret
    exact ⟨rfl, HB2.out⟩
  by_cases h3 : 300 < n'
  · have e1 : decide ((300 : Int) < n') = true := by simp; omega
    clear hfew
    go_wp2_with fail
    go_ret
    exact ⟨rfl, HB2.out⟩
  have e1 : decide ((300 : Int) < n') = false := by simp; omega
  have hn : n ≤ 2000 := by have := (fewB_parts hfew).2.1; rw [HLn.out] at this; omega
  have HLT := Lib.hid (show ∀ c ∈ L, c.s.length ≤ 2000 from fun c hc => by
    obtain ⟨k, hk, rfl⟩ := List.getElem_of_mem hc
    have := (fewB_parts hfew).1 k hk
    rw [kAt_get L k hk] at this
    exact this)
  have HLS := Lib.hid (show ∀ i : Nat, i < n → (kAt L i).s.length ≤ 65536 from fun i hi => by have := (fewB_parts hfew).1 i (by rw [HLn.out]; exact hi); omega)
  have HBL := Lib.hid (show poolOk L = true → (bytesK L).length ≤ 200000 from fun hp => by
    have h1 := bytesK_len L HLT.out
    have h2 := (fewB_parts hfew).2.2 (poolOk_parts hp).2.1
    omega)
  have HCK := Lib.hid (fun w' (hb : Below w.heap.size w w') => Check_any w' a n cap L (HK.out.below hb) (by omega) HLS.out)
  have HRG := Lib.hid (fun w' (hb : Below w.heap.size w w') => refRight_any w' a n cap L (HK.out.below hb) (by omega) HLS.out)
  have HBY := Lib.hid (fun w' (hb : Below w.heap.size w w') => Bytes_any w' a n cap L (HK.out.below hb) (by omega) HLS.out (fun hp => Nat.le_trans (HBL.out hp) (by decide)))
  unfold CheckRet at HCK
  have h300 : n' ≤ 300 := by omega
  clear hfew h3
  go_wp2_with fail
  refine (HBY.out _ HB2.out).mono ?_
  rintro e w3 hby
  cases hp : poolOk L
  · rw [hp] at HCK HRG
    simp only [Bool.false_eq_true, if_false] at HCK
    rcases hby with ⟨_, rfl, hb3⟩ | ⟨hpt, _⟩
    · have HB3 := Lib.hid (HB2.out.trans (hb3.mono HB2.out.size))
      clear hb3 hp
      go_wp2_with fail
      refine (HRG.out _ HB3.out).mono ?_
      rintro e w4 ⟨rfl, hb4⟩
      have HB4 := Lib.hid (HB3.out.trans (hb4.mono HB3.out.size))
      clear hb4
      go_wp2_with fail
      refine (HCK.out _ HB4.out).mono ?_
      rintro e w5 ⟨rfl, hb5⟩
      have HB5 := Lib.hid (HB4.out.trans (hb5.mono HB4.out.size))
      clear hb5
      go_wp2_with fail
      go_ret
      exact ⟨rfl, HB5.out⟩
    · rw [hp] at hpt; cases hpt
  · rw [hp] at HCK HRG
    simp only [if_true] at HCK
    have HP := Lib.hid hp
    have HBP := Lib.hid (HBL.out hp)
    rcases hby with ⟨hpf, _⟩ | ⟨_, v3, m3, rfl, ho3, hb3⟩
    · rw [hp] at hpf; cases hpf
    obtain ⟨a3, c3, rfl, hs3, hc3⟩ := Sl.ofOwn ho3
    have HS3 := Lib.hid hs3
    have HB3 := Lib.hid (HB2.out.trans (hb3.mono HB2.out.size))
    have hm3 : m3 ≤ 200000 := by have h1 := hs3.1; have h2 := HBP.out; omega
    have HPA := Lib.hid (parse_bytes HP.out HWF.out ms)
    have HRB := Lib.hid (fun w' (hb : Below w.heap.size w w') => refBytes_any w' a n cap L (HK.out.below hb) (by omega) HLS.out HP.out (Nat.le_trans HBP.out (by decide)))
    have HBN := Lib.hid hs3.1
    clear hb3 hp ho3 hs3
    generalize bytesK L = bs at *
    go_wp2_with fail
    refine (HRG.out _ HB3.out).mono ?_
    rintro e w4 ⟨rfl, hb4⟩
    have HB4 := Lib.hid (HB3.out.trans (hb4.mono HB3.out.size))
    have HS4 := Lib.hid (HS3.out.below hb4)
    clear hb4
    go_upto_region 8 with fail
    have HO5 := Lib.hid (own_empty w4 w4.heap.size 5 (Nat.le_refl _))
    have HB5 := Lib.hid ((Below.refl w4.heap.size w4).alloc (Nat.le_refl _) (.cells #[] 5))
    have HS5 := Lib.hid (HS4.out.below HB5.out)
    go_wp2_with (at_builtin; first
      | (refine wpList_app1 oneN rfl _ _ _ rfl w4.heap.size _ 0 _ rfl HO5.out _ m3 _ rfl (HS5.out.src encB_cell Try.underlying35 c3) (by omega) (by unfold maxLen; omega) HB5.out.size ?_; intro v6 w6 hown6 hg6 hb6; rw [List.map_nil, List.nil_append, Nat.zero_add] at hown6; have HO6 := Lib.hid hown6; have HB6 := Lib.hid (HB5.out.trans hb6); have HM6 := Lib.hid (HS'.out.below (HB4.out.trans (HB6.out.mono HB4.out.size))); clear hown6 hg6 hb6; have tok := trivial)
      | (have tk := tok; clear tk; refine wpList_app1 oneN rfl _ _ _ rfl w4.heap.size _ m3 _ rfl HO6.out _ n' _ rfl (HM6.out.src encB_cell Try.underlying35 cap') (by omega) (by unfold maxLen; omega) HB6.out.size ?_; intro v7 w7 hown7 hg7 hb7; rw [← List.map_append] at hown7; obtain ⟨a7, c7, rfl, hs7, hc7⟩ := Sl.ofOwn hown7; have HS7 := Lib.hid hs7; have HB7 := Lib.hid (HB6.out.trans hb7); clear hown7 hg7 hb7 hs7))
    have HPP := Lib.hid (poolParse_any w7 a7 (m3 + n') c7 (bs ++ ms) HS7.out (by omega) hc7)
    rw [HPA.out] at HPP
    refine HPP.out.mono ?_
    rintro e w8 ⟨v8, m8, rfl, ho8, hb8⟩
    have hb48 := HB7.out.trans (hb8.mono HB7.out.size)
    have HB8 := Lib.hid (HB4.out.trans (hb48.mono HB4.out.size))
    have HS8 := Lib.hid (HS4.out.below hb48)
    obtain ⟨a8, c8, rfl, hs8, hc8⟩ := Ss.ofOwn KV.cells_length (by decide) ho8
    have HK8 := Lib.hid (show Ks w8 a8 m8 L from hs8)
    have hmn : m8 = n := HK8.out.1.symm.trans HLn.out
    subst hmn
    clear hb8 ho8 hs8 hb48 HPP HB5 HB6 HB7
    simp only
    rw [HBN.out]
    go_upto_region 9 with fail
    have cv1 := fun w' (h : Below w8.heap.size w8 w') => run_conv (HS8.out.below h) c3
    have HCK8 := Lib.hid (fun w' (h : Below w8.heap.size w8 w') => HCK.out w' (HB8.out.trans (h.mono HB8.out.size)))
    have HRB8 := Lib.hid (fun w' (h : Below w8.heap.size w8 w') => HRB.out w' (HB8.out.trans (h.mono HB8.out.size)))
    have HSA8 := Lib.hid (fun w' (h : Below w8.heap.size w8 w') => Same_yesK w' a8 a m8 c8 cap L (HK8.out.below h) (HK.out.below (HB8.out.trans (h.mono HB8.out.size))) (by omega))
    have hSw : Below w8.heap.size w8 w8.drew := (Below.refl _ _).drew
    refine wp_region_lexS (Below w8.heap.size w8) (.of [(0, true), (1, true), (2, true), (3, true), (4, true), (5, true), (6, true), (7, true), (8, false), (9, true), (10, true), (11, true), (12, true), (13, true), (14, true), (15, false)] (.stir [(16, true), (17, true), (18, true), (19, true), (20, true), (21, true), (22, true), (23, true), (24, true), (25, true), (26, true), (27, true), (28, false), (29, true), (30, true)])) (by kernel_rfl) (by kernel_rfl) (fun c a d v w h => by cases d <;> exact h) ?_
    iterate 8
      refine lexS_step (fun K hK => ?_)
      simp only [lexOp, List.getElem?_toArray, List.getElem?_cons_succ, List.getElem?_cons_zero]
      rw [if_pos (by rfl)]
      apply Exists.intro
      refine ⟨fun w' hS' => ?_, hSw, ?_⟩
      · first | (go_simp <;> with_reducible rfl) | (go_simp; go_bits; with_reducible rfl)
      go_simp
      try go_bits
      refine hK _ _ ?_
      clear hK K
    refine lexS_step (fun K hK => ?_)
    simp only [lexOp, List.getElem?_toArray, List.getElem?_cons_succ, List.getElem?_cons_zero]
    rw [if_pos (by rfl)]
    go_step
    refine (HCK8.out _ hSw).mono ?_
    rintro e w9 ⟨rfl, hb9⟩
    replace hSw : Below w8.heap.size w8 w9 := hSw.trans (hb9.mono hSw.size)
    refine ⟨hSw, ?_⟩
    go_simp
    refine hK _ _ ?_
    clear hK K hb9
    iterate 6
      refine lexS_step (fun K hK => ?_)
      simp only [lexOp, List.getElem?_toArray, List.getElem?_cons_succ, List.getElem?_cons_zero]
      rw [if_pos (by rfl)]
      apply Exists.intro
      refine ⟨fun w' hS' => ?_, hSw, ?_⟩
      · first | (go_simp <;> with_reducible rfl) | (go_simp; go_bits; with_reducible rfl)
      go_simp
      try go_bits
      refine hK _ _ ?_
      clear hK K
    refine lexS_step (fun K hK => ?_)
    simp only [lexOp, List.getElem?_toArray, List.getElem?_cons_succ, List.getElem?_cons_zero]
    rw [if_pos (by rfl)]
    go_step
    refine (HRB8.out _ hSw).mono ?_
    rintro e w10 ⟨v10, m10, rfl, ho10, hb10⟩
    obtain ⟨a10, c10, rfl, hs10, hc10⟩ := Sl.ofOwn ho10
    replace hSw : Below w8.heap.size w8 w10 := hSw.trans (hb10.mono hSw.size)
    refine ⟨hSw, ?_⟩
    go_simp
    refine hK _ _ ?_
    clear hK K hb10 ho10
    have HS10 := Lib.hid hs10
    have cv2 := fun w' (h : Below w10.heap.size w10 w') => run_conv (HS10.out.below h) c10
    refine lexS_stir (Below w10.heap.size w10) (fun z hz => hSw.trans (hz.mono hSw.size)) (Below.refl _ _) ?_
    have hm10 : m10 = m3 := hs10.1.symm.trans HBN.out
    subst hm10
    have HSW := Lib.hid hSw
    clear hs10 hSw
    iterate 12
      refine stir_step (fun K hK => ?_)
      simp only [stirOp, List.getElem?_toArray, List.getElem?_cons_succ, List.getElem?_cons_zero]
      rw [if_pos (by rfl)]
      apply Exists.intro
      refine ⟨fun w' hS' => ?_, ?_⟩
      · first | (go_simp <;> with_reducible rfl) | (go_simp; go_bits; with_reducible rfl)
      go_simp
      try go_bits
      refine hK _ ?_
      clear hK K
    refine stir_step (fun K hK => ?_)
    simp only [stirOp, List.getElem?_toArray, List.getElem?_cons_succ, List.getElem?_cons_zero]
    rw [if_pos (by rfl)]
    apply Exists.intro
    refine ⟨fun w' hS' => ?_, ?_⟩
    · go_simp
      exact Stirs.call (Calls.mono ((HSA8.out w' (HSW.out.trans (hS'.mono HSW.out.size)))) fun e w'' h => ⟨h.1, (fun hb'' => hS'.trans (hb''.mono hS'.size)) h.2⟩)
    go_simp
    refine hK _ ?_
    clear hK K
    iterate 2
      refine stir_step (fun K hK => ?_)
      simp only [stirOp, List.getElem?_toArray, List.getElem?_cons_succ, List.getElem?_cons_zero]
      rw [if_pos (by rfl)]
      apply Exists.intro
      refine ⟨fun w' hS' => ?_, ?_⟩
      · first | (go_simp <;> with_reducible rfl) | (go_simp; go_bits; with_reducible rfl)
      go_simp
      try go_bits
      refine hK _ ?_
      clear hK K
    refine stir_nil (fun z hz => ?_)
    have HZ := Lib.hid (HB8.out.trans ((HSW.out.trans (hz.mono HSW.out.size)).mono HB8.out.size))
    clear hz
    go_wp2_with fail
    go_ret
    exact ⟨rfl, HZ.out⟩
end Go.Proofs.Ytlfoedagcagpgaa
