/- ops: the walk of OpsDecodes. No condition. -/
import Derived.Test.YtfhajbfgdbcpeaaOpsRef
import Derived.Test.YtfhajbfgdbcpeaaOpsPlain6
namespace Go.Proofs.Ytfhajbfgdbcpeaa
open Go.ChangeShapes Go.WideShapes Go.ChangeAt Go.RowKit
theorem Row.ofRowCap {w : World} {a : Option Addr} {n cap : Nat} {z : List Int} (h : IsRow .u8 w a n cap z) : ∃ bs, Sl encB w a n bs ∧ n ≤ cap ∧ n ≤ maxLen := by
  obtain ⟨bs, hb, hm⟩ := Bs.ofRow h
  exact ⟨bs, hb.sl, Row.cap h, hm⟩
set_option maxRecDepth 100000 in
set_option maxHeartbeats 8000000 in
theorem walk_OpsDecodes (a : Option Addr) (n cap : Nat) (z : List Int) (w : World) (h0 : IsRow .u8 w a n cap z) :
    Calls Try.prog 4 #[.slice a n cap] w fun e w' => e = .returned (.bool true) ∧ Below w.heap.size w w' := by
  obtain ⟨bs, hs, hcap, hm⟩ := Row.ofRowCap h0
  have HS := Lib.hid hs
  have HF := Lib.hid (fixed13 w)
  clear h0 hs
  unfold maxLen at hm
  by_cases hlong : (600 < n ∧ n ≤ 4096) ∨ 4106 < n
  · rcases hlong with ⟨h6, h4⟩ | h4
    · have e1 : decide ((600 : Int) < n) = true := by simp; omega
      have e2 : decide ((n : Int) ≤ 4096) = true := by simp; omega
      clear h6 h4
      go_enter Try.func4, Try.ntmps4
      go_wp2_with fail
      refine HF.out.mono ?_
      rintro e w1 ⟨rfl, hb1⟩
      have HB1 := Lib.hid hb1
      clear hb1
      go_wp2_with fail
      go_ret
      exact ⟨rfl, HB1.out⟩
    · have e1 : decide ((600 : Int) < n) = true := by simp; omega
      have e2 : decide ((n : Int) ≤ 4096) = false := by simp; omega
      have e3 : decide ((4106 : Int) < n) = true := by simp; omega
      clear h4
      go_enter Try.func4, Try.ntmps4
      go_wp2_with fail
      refine HF.out.mono ?_
      rintro e w1 ⟨rfl, hb1⟩
      have HB1 := Lib.hid hb1
      clear hb1
      go_wp2_with fail
      go_ret
      exact ⟨rfl, HB1.out⟩
  have hn : n ≤ 4106 := by omega
  have key : ∀ w', Below w.heap.size w w' → Calls Try.prog 12 #[.slice a n cap] w' (DecodeRet (decodeR bs) w') := fun w' hb => Decode_any w' a n cap bs (HS.out.below hb) (by omega) hcap
  have keyr : ∀ w', Below w.heap.size w w' → Calls Try.prog 13 #[.slice a n cap] w' (DecodeRet (decodeR bs) w') := fun w' hb => refDecode_any w' a n cap bs (HS.out.below hb) (by omega) hcap
  have HED := Lib.hid (encode_decode bs)
  have HLL := Lib.hid (decode_len bs)
  have HLn := Lib.hid HS.out.1
  have HD := Lib.hid key
  have HDR := Lib.hid keyr
  clear key keyr
  generalize decodeR bs = R at *
  obtain ⟨er, L⟩ := R
  have ew : (decide ((600 : Int) < n) = false) ∨ (decide ((600 : Int) < n) = true ∧ decide ((n : Int) ≤ 4096) = false) := by
    by_cases h6 : 600 < n
    · exact .inr ⟨by simp; omega, by simp; omega⟩
    · exact .inl (by simp; omega)
  have e3 : decide ((4106 : Int) < n) = false := by simp; omega
  clear hlong
  rcases ew with e1 | ⟨e1, e2⟩
  all_goals
    go_enter Try.func4, Try.ntmps4
    go_wp2_with fail
    refine HF.out.mono ?_
    rintro e w1 ⟨rfl, hb1⟩
    have HB1 := Lib.hid hb1
    clear hb1
    go_wp2_with fail
    refine (HD.out _ HB1.out).mono ?_
    rintro e w2 ⟨v2, m2, rfl, ho2, hw2, hb2⟩
    obtain ⟨a2, c2, rfl, hs2, hc2⟩ := Ss.ofOwn RW.cells_length (by decide) ho2
    have HR2 := Lib.hid hs2
    have HL2 := Lib.hid hs2.1
    have HW2 := Lib.hid hw2
    have HB2 := Lib.hid (HB1.out.trans (hb2.mono HB1.out.size))
    clear ho2 hw2 hb2 hs2
    go_wp2_with fail
    refine (HDR.out _ HB2.out).mono ?_
    rintro e w3 ⟨v3, m3, rfl, ho3, _, hb3⟩
    obtain ⟨a3, c3, rfl, hs3, hc3⟩ := Ss.ofOwn RW.cells_length (by decide) ho3
    obtain rfl : m3 = m2 := hs3.1.symm.trans HL2.out
    have HR3 := Lib.hid hs3
    have HR2b := Lib.hid (HR2.out.below hb3)
    have HB3 := Lib.hid (HB2.out.trans (hb3.mono HB2.out.size))
    clear ho3 hb3 hs3
    have hm65 : m3 ≤ 4106 := by
      have h1 := HLL.out
      have h2 := HL2.out
      rw [HLn.out] at h1
      have h3 : L.length ≤ n := h1
      have h4 : L.length = m3 := h2
      omega
    have HSM := Lib.hid (Same_yes w3 a2 a3 m3 c2 c3 L HR2b.out HR3.out (by omega))
    simp only
    go_wp2_with fail
    refine HSM.out.mono ?_
    rintro e w4 ⟨rfl, hb4⟩
    have HB4 := Lib.hid (HB3.out.trans (hb4.mono HB3.out.size))
    have HEN := Lib.hid (Encode_any w4 a2 m3 c2 L (HR2b.out.below hb4) (by omega) HW2.out)
    clear hb4
    go_wp2_with fail
    refine HEN.out.mono ?_
    rintro e w5 ⟨a5, m5, c5, rfl, hs5, hc5, hb5⟩
    have HB5 := Lib.hid (HB4.out.trans (hb5.mono HB4.out.size))
    have HS5 := Lib.hid hs5
    clear hs5 hb5
    by_cases her : er = 0
    · subst her
      have HQ := Lib.hid (HED.out L rfl)
      rw [HQ.out] at HS5 ⊢
      have cv1 := run_conv HS5.out c5
      have cv2 := run_conv (HS.out.below HB5.out) cap
      simp only
      go_wp2_with fail
      go_ret
      exact ⟨rfl, HB5.out⟩
    · have ee : (er != 0) = true := by simp [her]
      clear her
      go_wp2_with fail
      go_ret
      exact ⟨rfl, HB5.out⟩
end Go.Proofs.Ytfhajbfgdbcpeaa
