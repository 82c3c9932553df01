/- pool: the walk of PoolTells. No condition. -/
import Derived.Test.YtlfoedagcagpgaaPoolOpen
namespace Go.Proofs.Ytlfoedagcagpgaa
open Go.ChangeShapes Go.WideShapes Go.ChangeAt Go.RowKit
set_option maxRecDepth 100000 in
set_option maxHeartbeats 8000000 in
theorem walk_PoolTells (a : Option Addr) (n cap : Nat) (i t : Int) (w : World) (h0 : IsKs w a n cap) (h1 : (Lit.int .i64 i).wf = true) (h2 : (Lit.int .i64 t).wf = true) :
    Calls Try.prog 4 #[.slice a n cap, .int .i64 i, .int .i64 t] w fun e w' => e = .returned (.bool true) ∧ Below w.heap.size w w' := by
  obtain ⟨hnc, hnm, L, hk, _⟩ := h0
  have HF := Lib.hid (fixed11 w)
  have HK := Lib.hid hk
  clear hk h1 h2
  go_enter Try.func4, Try.ntmps4
  go_wp2_with fail
  refine HF.out.mono ?_
  rintro e w1 ⟨rfl, hb1⟩
  have HB1 := Lib.hid hb1
  have HE := Lib.hid (few_any w1 a n cap L (HK.out.below hb1) hnm)
  clear hb1
  go_wp2_with fail
  refine HE.out.mono ?_
  rintro e w2 ⟨rfl, hb2⟩
  have HB2 := Lib.hid (HB1.out.trans (hb2.mono HB1.out.size))
  clear hb2
  cases hfew : fewB L
  · clear hfew
    go_wp2_with fail
    go_ret
    exact ⟨rfl, HB2.out⟩
  · have hn : n ≤ 65536 := by have := (fewB_parts hfew).2.1; rw [HK.out.1] at this; omega
    have T1 := Text_any w2 a n cap L i (HK.out.below HB2.out) hn
    have T2 := refText_any w2 a n cap L i (HK.out.below HB2.out) hn
    have C1 := Class_any w2 a n cap L i (HK.out.below HB2.out) hn
    have C2 := refClass_any w2 a n cap L i (HK.out.below HB2.out) hn
    have M1 := Member_any w2 a n cap L i t (HK.out.below HB2.out) hn
    have M2 := fun w' (h : Below w2.heap.size w2 w') => refMember_any w' a n cap L i t (HK.out.below (HB2.out.trans (h.mono HB2.out.size))) hn
    unfold TextRet at T1 T2
    unfold ClassRet at C1 C2
    unfold MemberRet at M1 M2
    generalize textAt L i = x1 at *
    generalize isT L i 1 = o1 at *
    generalize (classAt L i).1 = x2 at *
    generalize (classAt L i).2 = o2 at *
    generalize (memberAt L i t).1 = x3 at *
    generalize (memberAt L i t).2.1 = x4 at *
    generalize (memberAt L i t).2.2.1 = x5 at *
    generalize (memberAt L i t).2.2.2 = o3 at *
    have KT1 := Lib.hid T1
    have KT2 := Lib.hid T2
    have KC1 := Lib.hid C1
    have KC2 := Lib.hid C2
    have KM1 := Lib.hid M1
    have KM2 := Lib.hid M2
    clear T1 T2 C1 C2 M1 M2 hfew HK HF HE
    go_wp2_with fail
    refine KT1.out.mono ?_
    rintro e w' ⟨rfl, rfl⟩
    go_wp2_with fail
    refine KT2.out.mono ?_
    rintro e w' ⟨rfl, rfl⟩
    go_wp2_with fail
    refine KC1.out.mono ?_
    rintro e w' ⟨rfl, rfl⟩
    go_wp2_with fail
    refine KC2.out.mono ?_
    rintro e w' ⟨rfl, rfl⟩
    go_wp2_with fail
    refine KM1.out.mono ?_
    rintro e w3 ⟨rfl, hb3⟩
    have KM3 := Lib.hid (KM2.out w3 hb3)
    have HB3 := Lib.hid (HB2.out.trans (hb3.mono HB2.out.size))
    clear hb3
    go_wp2_with fail
    refine KM3.out.mono ?_
    rintro e w4 ⟨rfl, hb4⟩
    have HB4 := Lib.hid (HB3.out.trans (hb4.mono HB3.out.size))
    clear hb4
    cases o1 <;> cases o2 <;> cases o3
    all_goals
      go_wp2_with fail
      go_ret
      exact ⟨rfl, HB4.out⟩
end Go.Proofs.Ytlfoedagcagpgaa
