/- NumPuts: the walk. No condition. -/
import Derived.Test.YtbbolbiepkehaaaNumLaw4
namespace Go.Proofs.Ytbbolbiepkehaaa
open Go.ChangeShapes Go.WideShapes Go.ChangeAt Go.RowKit
/-- What Put makes. -/
def putP (bs : List UInt8) (q : Nat) (n : Int) : List UInt8 := if n < 1 ∨ 8 < n then bs else bs ++ putB q n.toNat
theorem putP_length (bs : List UInt8) (q : Nat) (n : Int) : (putP bs q n).length ≤ bs.length + 8 := by
  unfold putP
  split
  · omega
  · rw [List.length_append, putB_length]; omega
theorem putP_get (bs : List UInt8) (q : Nat) (n : Int) (h : ¬(n < 1 ∨ 8 < n)) : getR (putP bs q n) bs.length n = (((q % 256 ^ n.toNat : Nat) : Int), 0) := by
  have hl : (putP bs q n).length = bs.length + n.toNat := by unfold putP; rw [if_neg h, List.length_append, putB_length]
  unfold getR
  rw [if_neg h, if_neg (by omega)]
  unfold putP
  rw [if_neg h]
  have e : ((bs.length : Int)).toNat = bs.length := by omega
  rw [e, List.drop_left, List.take_of_length_le (by rw [putB_length]; omega), get_put]
theorem Put_all (w : World) (a : Option Addr) (len cap : Nat) (bs : List UInt8) (q : Nat) (n : Int) (hs : Sl encB w a len bs) (hl : len ≤ 1048576) (hcap : len ≤ cap) (hv : q < 18446744073709551616) :
    Calls Try.prog 13 #[.slice a len cap, .int .u64 q, .int .i64 n] w fun e w' => ∃ a' m c, e = .returned (.slice a' m c) ∧ Sl encB w' a' m (putP bs q n) ∧ m ≤ c ∧ Below w.heap.size w w' := by
  by_cases h : n < 1 ∨ 8 < n
  · refine (Put_odd w a len cap q n hcap h).mono ?_
    rintro e w' ⟨rfl, rfl⟩
    refine ⟨_, _, _, rfl, ?_, Nat.le_refl _, Below.refl _ _⟩
    unfold putP; rw [if_pos h]; exact hs
  · obtain ⟨k, rfl⟩ : ∃ k : Nat, n = k := ⟨n.toNat, by omega⟩
    refine (Put_any w a len cap bs q k hs hl hcap hv (by omega) (by omega)).mono ?_
    rintro e w' ⟨v, m, rfl, hown, hb⟩
    obtain ⟨a', c, rfl, hsl, hc⟩ := Sl.ofOwn hown
    refine ⟨_, _, _, rfl, ?_, hc, hb⟩
    unfold putP; rw [if_neg h]; exact hsl
theorem refPut_all (w : World) (a : Option Addr) (len cap : Nat) (bs : List UInt8) (q : Nat) (n : Int) (hs : Sl encB w a len bs) (hl : len ≤ 1048576) (hv : q < 18446744073709551616) :
    Calls Try.prog 14 #[.slice a len cap, .int .u64 q, .int .i64 n] w fun e w' => ∃ a' m c, e = .returned (.slice a' m c) ∧ Sl encB w' a' m (putP bs q n) ∧ m ≤ c ∧ Below w.heap.size w w' := by
  by_cases h : n < 1 ∨ 8 < n
  · refine (refPut_odd w a len cap bs q n hs hl h).mono ?_
    rintro e w' ⟨v, m, rfl, hown, hb⟩
    obtain ⟨a', c, rfl, hsl, hc⟩ := Sl.ofOwn hown
    refine ⟨_, _, _, rfl, ?_, hc, hb⟩
    unfold putP; rw [if_pos h]; exact hsl
  · obtain ⟨k, rfl⟩ : ∃ k : Nat, n = k := ⟨n.toNat, by omega⟩
    refine (refPut_any w a len cap bs q k hs hl hv (by omega) (by omega)).mono ?_
    rintro e w' ⟨v, m, rfl, hown, hb⟩
    obtain ⟨a', c, rfl, hsl, hc⟩ := Sl.ofOwn hown
    refine ⟨_, _, _, rfl, ?_, hc, hb⟩
    unfold putP; rw [if_neg h]; exact hsl
theorem cat789 (bs : List UInt8) : (⟨bs.toArray⟩ : ByteArray) ++ ⟨#[7, 8, 9]⟩ = ⟨(bs ++ [7, 8, 9]).toArray⟩ := by
  apply ByteArray.ext
  simp
set_option maxRecDepth 100000 in
set_option maxHeartbeats 2000000 in
theorem walk_NumPuts (a : Option Addr) (len cap : Nat) (z : List Int) (v n : Int) (w : World) (h0 : IsRow .u8 w a len cap z) (hv : (Lit.int .u64 v).wf = true) (hn : (Lit.int .i64 n).wf = true) :
    Calls Try.prog 5 #[.slice a len cap, .int .u64 v, .int .i64 n] w fun e w' => e = .returned (.bool true) ∧ Below w.heap.size w w' := by
  have hcap := Row.cap h0
  obtain ⟨bs, hB, hm⟩ := Bs.ofRow h0
  unfold maxLen at hm
  have HB := Lib.hid hB.sl
  have HN : Hid (IntR n) := bounds_i64 hn
  obtain ⟨v0, v1⟩ := bounds_u64 hv
  have HV : Hid (U64 v) := ⟨v0, by omega⟩
  obtain ⟨q, rfl⟩ : ∃ q : Nat, v = q := ⟨v.toNat, by omega⟩
  clear h0 hB hn hv
  go_enter Try.func5, Try.ntmps5
  go_wp2_with fail
  refine (fixed02_any _).mono ?_
  rintro e w1 ⟨rfl, hb1⟩
  by_cases hl : 2000 < len
  · go_wp2_with fail
    go_ret
    exact ⟨rfl, hb1⟩
  have H1 := Lib.hid hb1
  have HO0 := Lib.hid (own_empty w1 w.heap.size 5 hb1.size)
  have HB0 := Lib.hid (hb1.alloc hb1.size (.cells #[] 5))
  have HE := Lib.hid (show List.map encB [] ++ List.map encB bs ++ (#[Value.int .u8 7, Value.int .u8 8, Value.int .u8 9] : Array Value).toList = (bs ++ [7, 8, 9]).map encB by rw [List.map_append]; rfl)
  clear hb1
  go_wp2_with (at_builtin; first
    | (refine wpList_app_lit oneN rfl _ _ rfl w.heap.size _ _ _ rfl HO2.out _ 3 _ rfl rfl rfl (by omega) (by unfold maxLen; omega) HB2.out.size ?_; intro v3 w3 hown3 hg3 hb3; clear hg3; rw [HE.out] at hown3; obtain ⟨a3, cap3, hv3, hsl3, hc3⟩ := Sl.ofOwn hown3; subst hv3; clear hown3; have HO3 := Lib.hid hsl3; have HB3 := Lib.hid (HB2.out.trans hb3); have hq3 : (len : Int) ≤ (cap3 : Int) := (by omega); clear hb3 hsl3)
    | (refine wpList_app1 oneN rfl _ _ _ rfl w.heap.size _ _ _ rfl HO0.out _ _ _ rfl ((HB.out.below HB0.out).src encB_cell Try.underlying22 _) (by omega) (by unfold maxLen; omega) HB0.out.size ?_; intro v2 w2 hown2 hg2 hb2; have HO2 := Lib.hid hown2; have HB2 := Lib.hid (HB0.out.trans hb2); clear hown2 hg2 hb2))
  have hs3 : Sl encB w3 a3 len bs := by
    have h := HO3.out.take (j := len) (by omega)
    rwa [List.take_left' HB.out.1] at h
  have HS3 := Lib.hid hs3
  clear hs3
  have hPl := putP_length bs q n
  rw [HB.out.1] at hPl
  have hPg := Lib.hid (putP_get bs q n)
  rw [HB.out.1] at hPg
  refine (Put_all _ a3 len cap3 bs q n HS3.out (by omega) (by omega) (by omega)).mono ?_
  generalize hPe : putP bs q n = P at hPl hPg ⊢
  have HP := Lib.hid hPe
  clear hPe
  rintro e w4 ⟨a4, m4, c4, rfl, hsl4, hc4, hb4⟩
  have hm4 := hsl4.1
  have hO4 := HO3.out.below hb4
  rw [Nat.zero_add] at hO4
  have HO4 := Lib.hid hO4
  clear hO4
  have H4 := Lib.hid (HB3.out.trans (hb4.mono HB3.out.size))
  have HS4 := Lib.hid hsl4
  clear hb4 HS3 HO3 hsl4
  go_wp2_with fail
  have hc1 : ∀ w', Below w4.heap.size w4 w' → (convert 22 9 (.slice a3 (len + 3) cap3)).run Try.prog w' = .ok (.string ⟨(bs ++ [7, 8, 9]).toArray⟩) w' := fun w' h => run_conv (HO4.out.below h) cap3
  have hc2 : ∀ w', Below w4.heap.size w4 w' → (convert 22 9 (.slice a len cap)).run Try.prog w' = .ok (.string ⟨bs.toArray⟩) w' := fun w' h => run_conv (HB.out.below (H4.out.trans (h.mono H4.out.size))) cap
  have hc3' : ∀ w', Below w4.heap.size w4 w' → (convert 22 9 (.slice a4 m4 c4)).run Try.prog w' = .ok (.string ⟨P.toArray⟩) w' := fun w' h => run_conv (HS4.out.below h) c4
  have hcat := cat789 bs
  have hnl : ¬ 9223372036854775807 < bs.length + 3 := by have := HB.out.1; omega
  have hSw : Below w4.heap.size w4 w4.drew := (Below.refl _ _).drew
  refine wp_region_lex (Below w4.heap.size w4) [(0, true), (1, true), (2, true), (3, true), (4, true), (5, true), (6, true), (7, true), (8, true), (9, true), (10, true), (11, true), (12, false), (13, false), (14, true), (15, true), (16, true), (17, true), (18, true), (20, true), (21, true), (19, false), (22, false), (23, true), (24, true)] (by kernel_rfl) (by kernel_rfl) (fun c a d v w h => by cases d <;> exact h) ?_
  iterate 12
    refine lex_step (fun K hK => ?_)
    simp only [lexOp, List.getElem?_toArray, List.getElem?_cons_succ, List.getElem?_cons_zero]
    rw [if_pos (by rfl)]
    apply Exists.intro
    refine ⟨fun w' hS' => ?_, hSw, ?_⟩
    · first | (go_simp <;> with_reducible rfl) | (go_simp; go_bits; with_reducible rfl)
    go_simp
    try go_bits
    refine hK _ _ ?_
    clear hK K
  refine lex_step (fun K hK => ?_)
  simp only [lexOp, List.getElem?_toArray, List.getElem?_cons_succ, List.getElem?_cons_zero]
  rw [if_pos (by rfl)]
  go_step
  have hr := refPut_all _ a len cap bs q n (HB.out.below H4.out.drew) (by omega) (by omega)
  rw [HP.out] at hr
  refine hr.mono ?_
  clear hr
  rintro e w5 ⟨a5, m5, c5, rfl, hsl5, _, hb5⟩
  have hcv5 := run_conv hsl5 c5
  replace hSw : Below w4.heap.size w4 w5 := hSw.trans (hb5.mono (by simp))
  have H5 := Lib.hid (H4.out.trans (hSw.mono H4.out.size))
  clear hb5 hsl5
  go_simp
  refine hK _ _ ?_
  clear hK K
  refine lex_step (fun K hK => ?_)
  simp only [lexOp, List.getElem?_toArray, List.getElem?_cons_succ, List.getElem?_cons_zero]
  rw [if_pos (by rfl)]
  go_step
  refine hK _ _ ?_
  clear hK K hcv5
  iterate 7
    refine lex_step (fun K hK => ?_)
    simp only [lexOp, List.getElem?_toArray, List.getElem?_cons_succ, List.getElem?_cons_zero]
    rw [if_pos (by rfl)]
    apply Exists.intro
    refine ⟨fun w' hS' => ?_, hSw, ?_⟩
    · first | (go_simp <;> with_reducible rfl) | (go_simp; go_bits; with_reducible rfl)
    go_simp
    try go_bits
    refine hK _ _ ?_
    clear hK K
  refine lex_step (fun K hK => ?_)
  simp only [lexOp, List.getElem?_toArray, List.getElem?_cons_succ, List.getElem?_cons_zero]
  rw [if_pos (by rfl)]
  go_step
  refine (Sign_any _ q n HV.out HN.out).mono ?_
  rintro e w6 ⟨rfl, rfl⟩
  go_simp
  refine hK _ _ ?_
  clear hK K
  refine lex_step (fun K hK => ?_)
  simp only [lexOp, List.getElem?_toArray, List.getElem?_cons_succ, List.getElem?_cons_zero]
  rw [if_pos (by rfl)]
  go_step
  refine (refSign_any _ q n HV.out HN.out).mono ?_
  rintro e w6 ⟨rfl, rfl⟩
  go_simp
  refine hK _ _ ?_
  clear hK K
  iterate 2
    refine lex_step (fun K hK => ?_)
    simp only [lexOp, List.getElem?_toArray, List.getElem?_cons_succ, List.getElem?_cons_zero]
    rw [if_pos (by rfl)]
    apply Exists.intro
    refine ⟨fun w' hS' => ?_, hSw, ?_⟩
    · first | (go_simp <;> with_reducible rfl) | (go_simp; go_bits; with_reducible rfl)
    go_simp
    try go_bits
    refine hK _ _ ?_
    clear hK K
  refine lex_nil ?_
  have HS5 := Lib.hid (HS4.out.below hSw)
  clear hc1 hc2 hc3' hcat hnl hSw HS4
  by_cases c1 : n < 1 ∨ 8 < n
  · go_wp2_with fail
    all_goals (go_ret; exact ⟨rfl, H5.out⟩)
  go_wp2_with fail
  refine (Get_any _ a4 m4 c4 P len n HS5.out (by omega) hc4 (by unfold IntR; omega) HN.out).mono ?_
  rw [hPg.out c1]
  rintro e w6 ⟨rfl, rfl⟩
  have hq64 : (q : Int) < 18446744073709551616 := by omega
  generalize hR : ((q % 256 ^ n.toNat : Nat) : Int) = R
  clear hPg HN HS5
  rcases (by omega : n = 8 ∨ n = 1 ∨ n = 2 ∨ n = 3 ∨ n = 4 ∨ n = 5 ∨ n = 6 ∨ n = 7) with rfl | rfl | rfl | rfl | rfl | rfl | rfl | rfl
  · obtain rfl : R = (q : Int) := by
      rw [← hR, show 256 ^ ((8 : Int)).toNat = 18446744073709551616 from rfl]; omega
    clear hR
    go_wp2_with fail
    go_ret
    exact ⟨rfl, H5.out⟩
  · obtain rfl : R = (q : Int) % 256 := by
      rw [← hR, show 256 ^ ((1 : Int)).toNat = 256 from rfl]; omega
    clear hR
    go_wp2_with fail
    go_ret
    exact ⟨rfl, H5.out⟩
  · obtain rfl : R = (q : Int) % 65536 := by
      rw [← hR, show 256 ^ ((2 : Int)).toNat = 65536 from rfl]; omega
    clear hR
    go_wp2_with fail
    go_ret
    exact ⟨rfl, H5.out⟩
  · obtain rfl : R = (q : Int) % 16777216 := by
      rw [← hR, show 256 ^ ((3 : Int)).toNat = 16777216 from rfl]; omega
    clear hR
    go_wp2_with fail
    go_ret
    exact ⟨rfl, H5.out⟩
  · obtain rfl : R = (q : Int) % 4294967296 := by
      rw [← hR, show 256 ^ ((4 : Int)).toNat = 4294967296 from rfl]; omega
    clear hR
    go_wp2_with fail
    go_ret
    exact ⟨rfl, H5.out⟩
  · obtain rfl : R = (q : Int) % 1099511627776 := by
      rw [← hR, show 256 ^ ((5 : Int)).toNat = 1099511627776 from rfl]; omega
    clear hR
    go_wp2_with fail
    go_ret
    exact ⟨rfl, H5.out⟩
  · obtain rfl : R = (q : Int) % 281474976710656 := by
      rw [← hR, show 256 ^ ((6 : Int)).toNat = 281474976710656 from rfl]; omega
    clear hR
    go_wp2_with fail
    go_ret
    exact ⟨rfl, H5.out⟩
  · obtain rfl : R = (q : Int) % 72057594037927936 := by
      rw [← hR, show 256 ^ ((7 : Int)).toNat = 72057594037927936 from rfl]; omega
    clear hR
    go_wp2_with fail
    go_ret
    exact ⟨rfl, H5.out⟩
end Go.Proofs.Ytbbolbiepkehaaa
