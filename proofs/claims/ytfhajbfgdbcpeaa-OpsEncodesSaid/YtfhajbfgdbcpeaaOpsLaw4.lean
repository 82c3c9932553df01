/- ops: the walk of OpsEncodes. No condition. -/
import Derived.Test.YtfhajbfgdbcpeaaOpsRef3
import Derived.Test.YtfhajbfgdbcpeaaOpsOpen
import Derived.Test.YtfhajbfgdbcpeaaOpsPlain8
namespace Go.Proofs.Ytfhajbfgdbcpeaa
open Go.ChangeShapes Go.WideShapes Go.ChangeAt Go.RowKit
theorem encode_len (L : List RW) : (encodeR L).2.length ≤ 3 * L.length := by
  unfold encodeR
  split
  · exact Nat.zero_le _
  split
  · exact Nat.zero_le _
  split
  · exact Nat.zero_le _
  · exact encL_len L
set_option maxRecDepth 100000 in
set_option maxHeartbeats 8000000 in
theorem walk_OpsEncodes (a : Option Addr) (n cap : Nat) (w : World) (h0 : IsRs w a n cap) :
    Calls Try.prog 5 #[.slice a n cap] w fun e w' => e = .returned (.bool true) ∧ Below w.heap.size w w' := by
  obtain ⟨hcap, hm, L, hs, hw⟩ := h0
  have HS := Lib.hid hs
  have HLn := Lib.hid hs.1
  have HF := Lib.hid (fixed13 w)
  clear hs
  unfold maxLen at hm
  by_cases hlong : 150 < n
  · have e1 : decide ((150 : Int) < n) = true := by simp; omega
    clear hlong
    go_enter Try.func5, Try.ntmps5
    go_wp2_with fail
    refine HF.out.mono ?_
    rintro e w1 ⟨rfl, hb1⟩
    have HB1 := Lib.hid hb1
    clear hb1
    go_wp2_with fail
    go_ret
    exact ⟨rfl, HB1.out⟩
  have hn : n ≤ 150 := by omega
  have e1 : decide ((150 : Int) < n) = false := by simp; omega
  clear hlong
  have HWA := Lib.hid (show ∀ r ∈ L, IntRo r.pos ∧ IntRo r.a ∧ r.op < 256 from fun r hr => ⟨(hw r hr).1, (hw r hr).2.1, (hw r hr).2.2.2⟩)
  clear hw
  have key : ∀ w', Below w.heap.size w w' → Calls Try.prog 15 #[.slice a n cap] w' (EncodeRet (encodeR L) w') := fun w' hb => Encode_any w' a n cap L (HS.out.below hb) (by omega) HWA.out
  have keyr : ∀ w', Below w.heap.size w w' → Calls Try.prog 16 #[.slice a n cap] w' (EncodeRet (encodeR L) w') := fun w' hb => refEncode_any w' a n cap L (HS.out.below hb) (by omega) HWA.out
  have HED := Lib.hid (fun bs h => (decode_encode (l := L) (bs := bs) (fun r hr => (HWA.out r hr).2.2) h).2)
  have HLL := Lib.hid (encode_len L)
  have HD := Lib.hid key
  have HDR := Lib.hid keyr
  clear key keyr
  generalize encodeR L = R at *
  obtain ⟨er, bs⟩ := R
  unfold EncodeRet at HD HDR
  simp only at HD HDR HLL
  go_enter Try.func5, Try.ntmps5
  go_wp2_with fail
  refine HF.out.mono ?_
  rintro e w1 ⟨rfl, hb1⟩
  have HB1 := Lib.hid hb1
  clear hb1
  go_wp2_with fail
  refine (HD.out _ HB1.out).mono ?_
  rintro e w2 ⟨a2, m2, c2, rfl, hs2, hc2, hb2⟩
  have HS2 := Lib.hid hs2
  have HB2 := Lib.hid (HB1.out.trans (hb2.mono HB1.out.size))
  clear hb2 hs2
  go_wp2_with fail
  refine (HDR.out _ HB2.out).mono ?_
  rintro e w3 ⟨a3, m3, c3, rfl, hs3, hc3, hb3⟩
  obtain rfl : m3 = m2 := hs3.1.symm.trans HS2.out.1
  have HS3 := Lib.hid hs3
  have HS2b := Lib.hid (HS2.out.below hb3)
  have HB3 := Lib.hid (HB2.out.trans (hb3.mono HB2.out.size))
  clear hb3 hs3
  have hm65 : m3 ≤ 450 := by
    have h1 := HLL.out
    have h2 := HS2.out.1
    rw [HLn.out] at h1
    omega
  have cv1 := run_conv HS2b.out c2
  have cv2 := run_conv HS3.out c3
  have HDE := Lib.hid (Decode_any w3 a2 m3 c2 bs HS2b.out (by omega) hc2)
  go_wp2_with fail
  refine HDE.out.mono ?_
  rintro e w4 ⟨v4, m4, rfl, ho4, _, hb4⟩
  have HB4 := Lib.hid (HB3.out.trans (hb4.mono HB3.out.size))
  obtain ⟨a4, c4, rfl, hs4, hc4⟩ := Ss.ofOwn RW.cells_length (by decide) ho4
  have HR4 := Lib.hid hs4
  clear hb4 ho4 hs4 cv1 cv2
  by_cases her : er = 0
  · subst her
    have HQ := Lib.hid (HED.out bs rfl)
    rw [HQ.out] at HR4 ⊢
    obtain rfl : m4 = n := HR4.out.1.symm.trans HLn.out
    have HSM := Lib.hid (Same_yes w4 a4 a m4 c4 cap L HR4.out (HS.out.below HB4.out) (by omega))
    simp only
    go_wp2_with fail
    refine HSM.out.mono ?_
    rintro e w5 ⟨rfl, hb5⟩
    have HB5 := Lib.hid (HB4.out.trans (hb5.mono HB4.out.size))
    clear hb5
    go_wp2_with fail
    go_ret
    exact ⟨rfl, HB5.out⟩
  · have ee : (er != 0) = true := by simp [her]
    clear her
    go_wp2_with fail
    go_ret
    exact ⟨rfl, HB4.out⟩
end Go.Proofs.Ytfhajbfgdbcpeaa
