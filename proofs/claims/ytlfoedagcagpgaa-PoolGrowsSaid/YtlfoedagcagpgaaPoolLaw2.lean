/- pool: the walk of PoolGrows. No condition. -/
import Derived.Test.YtlfoedagcagpgaaPoolOpen
import Derived.Test.YtlfoedagcagpgaaPoolPlain2
namespace Go.Proofs.Ytlfoedagcagpgaa
open Go.ChangeShapes Go.WideShapes Go.ChangeAt Go.RowKit
theorem stK : StE 22 28 (.agg #[.int .i64 0, .int .i64 0, .int .i64 0, .int .i64 0, .string ⟨#[]⟩]) 5 48 := ⟨Try.underlying22, by kernel_rfl, rfl⟩
theorem own_emptyS (w : World) (base : Nat) (e : TypeId) (z : Nat) (hb : base ≤ w.heap.size) : (w.alloc (.cells #[] e)).ownsRow base e z (.slice (some ⟨w.heap.size, 0, none⟩) 0 0) 0 [] :=
  World.ownsRow_made w #[] 0 hb (by decide) (by simp)
set_option maxRecDepth 100000 in
set_option maxHeartbeats 8000000 in
theorem walk_PoolGrows (a : Option Addr) (n cap : Nat) (i : Int) (w : World) (h0 : IsKs w a n cap) (h1 : (Lit.int .i64 i).wf = true) :
    Calls Try.prog 3 #[.slice a n cap, .int .i64 i] w fun e w' => e = .returned (.bool true) ∧ Below w.heap.size w w' := by
  obtain ⟨hnc, hnm, L, hk, _⟩ := h0
  have HF := Lib.hid (fixed11 w)
  have HK := Lib.hid hk
  have HLn := Lib.hid hk.1
  clear hk h1
  go_enter Try.func3, Try.ntmps3
  go_wp2_with fail
  refine HF.out.mono ?_
  rintro e w1 ⟨rfl, hb1⟩
  have HB1 := Lib.hid hb1
  have HE := Lib.hid (few_any w1 a n cap L (HK.out.below hb1) hnm)
  clear hb1
  go_wp2_with fail
  refine HE.out.mono ?_
  rintro e w2 ⟨rfl, hb2⟩
  have HB2 := Lib.hid (HB1.out.trans (hb2.mono HB1.out.size))
  clear hb2
  cases hfew : fewB L
  · clear hfew
    go_wp2_with fail
    go_ret
    exact ⟨rfl, HB2.out⟩
  · have hn : n ≤ 2000 := by have := (fewB_parts hfew).2.1; rw [HLn.out] at this; omega
    have HLS := Lib.hid (show ∀ i : Nat, i < n → (kAt L i).s.length ≤ 65536 from fun i hi => by have := (fewB_parts hfew).1 i (by rw [HLn.out]; exact hi); omega)
    have HCK := Lib.hid (Check_any w2 a n cap L (HK.out.below HB2.out) (by omega) HLS.out)
    unfold CheckRet at HCK
    clear hfew
    go_wp2_with fail
    cases hp : poolOk L
    · rw [hp] at HCK
      simp only [Bool.false_eq_true, if_false] at HCK
      clear hp
      refine HCK.out.mono ?_
      rintro e w3 ⟨rfl, hb3⟩
      have HB3 := Lib.hid (HB2.out.trans (hb3.mono HB2.out.size))
      clear hb3
      go_wp2_with fail
      go_ret
      exact ⟨rfl, HB3.out⟩
    · rw [hp] at HCK
      simp only [if_true] at HCK
      have HP := Lib.hid hp
      clear hp
      refine HCK.out.mono ?_
      rintro e w3 ⟨rfl, hb3⟩
      have HB3 := Lib.hid (HB2.out.trans (hb3.mono HB2.out.size))
      clear hb3
      by_cases hin : i < n
      · have e1 : decide ((n : Int) ≤ i) = false := by simp; omega
        go_upto_region 5 with fail
        have HO0 := Lib.hid (own_emptyS w3 w.heap.size 28 5 HB3.out.size)
        have HBa := Lib.hid (HB3.out.alloc HB3.out.size (.cells #[] 28))
        have HKa := Lib.hid (HK.out.below HBa.out)
        go_wp2_with (at_builtin; first
          | (refine wpList_appS stK rfl _ _ _ rfl w.heap.size _ _ _ rfl HO0.out _ n _ rfl (HKa.out.src KV.cells_length (by decide) KV.cells_one Try.underlying22 cap) (by omega) (by unfold maxLen; omega) HBa.out.size ?_; intro v4 w4 hown4 hg4 hb4; rw [List.nil_append, Nat.zero_add] at hown4; have HO4 := Lib.hid hown4; have HB4 := Lib.hid (HBa.out.trans hb4); clear hown4 hg4 hb4; have tok := trivial)
          | (have tk := tok; clear tk; refine wpList_appS_lit stK rfl _ _ rfl w.heap.size _ n _ rfl HO4.out _ 1 _ _ rfl rfl rfl rfl (by omega) (by unfold maxLen; omega) HB4.out.size ?_; intro v5 w5 hown5 hg5 hb5; have HO5 := Lib.hid (show w5.ownsRow w.heap.size 28 5 v5 (n + 1) ((L ++ [moreK]).flatMap KV.cells) by rw [List.flatMap_append]; exact hown5); obtain ⟨a5, c5, rfl, hs5, hc5⟩ := Ss.ofOwn KV.cells_length (by decide) HO5.out; have HS5 := Lib.hid hs5; have HB5 := Lib.hid (HB4.out.trans hb5); clear hown5 hg5 hb5 hs5))
        have HM := Lib.hid (show ∀ k : Nat, k < n + 1 → (kAt (L ++ [moreK]) k).s.length ≤ 65536 from fun k hk => by
          by_cases hkn : k < n
          · rw [kAt_snoc L _ k (by rw [HLn.out]; omega)]; exact HLS.out k hkn
          · obtain rfl : k = n := by omega
            rw [← HLn.out, kAt_last]; decide)
        have HC5 := Lib.hid (Check_any w5 a5 (n + 1) c5 (L ++ [moreK]) HS5.out (by omega) HM.out)
        unfold CheckRet at HC5
        cases hq : poolOk (L ++ [moreK])
        · rw [hq] at HC5
          simp only [Bool.false_eq_true, if_false] at HC5
          have h6 : 1024 < n + 1 := by
            rcases Nat.lt_or_ge 1024 (n + 1) with h | h
            · exact h
            · rw [poolOk_more HP.out (by rw [HLn.out]; exact h)] at hq; cases hq
          have e2 : decide ((1024 : Int) < (n : Int) + 1) = true := by simp; omega
          clear hq h6
          refine HC5.out.mono ?_
          rintro e w6 ⟨rfl, hb6⟩
          have HB6 := Lib.hid (HB5.out.trans (hb6.mono HB5.out.size))
          clear hb6
          go_wp2_with fail
          go_ret
          exact ⟨rfl, HB6.out⟩
        · rw [hq] at HC5
          simp only [if_true] at HC5
          clear hq
          refine HC5.out.mono ?_
          rintro e w6 ⟨rfl, hb6⟩
          have HB6 := Lib.hid (HB5.out.trans (hb6.mono HB5.out.size))
          have T1 := Text_any w6 a n cap L i (HK.out.below HB6.out) (by omega)
          have T2 := Text_any w6 a5 (n + 1) c5 (L ++ [moreK]) i (Ks.below HS5.out hb6) (by omega)
          have C1 := Class_any w6 a n cap L i (HK.out.below HB6.out) (by omega)
          have C2 := Class_any w6 a5 (n + 1) c5 (L ++ [moreK]) i (Ks.below HS5.out hb6) (by omega)
          unfold TextRet at T1 T2
          unfold ClassRet at C1 C2
          rw [textAt_snoc L _ i (by rw [HLn.out]; exact hin), isT_snoc L _ i 1 (by rw [HLn.out]; exact hin)] at T2
          rw [classAt_snoc L _ HP.out i (by rw [HLn.out]; exact hin)] at C2
          generalize textAt L i = x1 at *
          generalize isT L i 1 = o1 at *
          generalize (classAt L i).1 = x2 at *
          generalize (classAt L i).2 = o2 at *
          have KT1 := Lib.hid T1
          have KT2 := Lib.hid T2
          have KC1 := Lib.hid C1
          have KC2 := Lib.hid C2
          clear T1 T2 C1 C2 hb6
          go_wp2_with fail
          refine KT1.out.mono ?_
          rintro e w' ⟨rfl, rfl⟩
          go_wp2_with fail
          refine KT2.out.mono ?_
          rintro e w' ⟨rfl, rfl⟩
          go_wp2_with fail
          refine KC1.out.mono ?_
          rintro e w' ⟨rfl, rfl⟩
          go_wp2_with fail
          refine KC2.out.mono ?_
          rintro e w' ⟨rfl, rfl⟩
          cases o1 <;> cases o2
          all_goals
            go_wp2_with fail
            go_ret
            exact ⟨rfl, HB6.out⟩
      · have e1 : decide ((n : Int) ≤ i) = true := by simp; omega
        go_wp2_with fail
        go_ret
        exact ⟨rfl, HB3.out⟩
end Go.Proofs.Ytlfoedagcagpgaa
