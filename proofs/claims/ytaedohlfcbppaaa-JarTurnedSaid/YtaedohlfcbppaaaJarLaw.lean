/- jar: the walk of JarReads. No condition. -/
import Derived.Test.YtaedohlfcbppaaaJarFix
import Derived.Test.YtaedohlfcbppaaaJarRef3
import Derived.Test.YtaedohlfcbppaaaBytesOpen
namespace Go.Proofs.Ytaedohlfcbppaaa
open Go.ChangeShapes Go.WideShapes Go.ChangeAt Go.RowKit
theorem row_sl {w : World} {a : Option Addr} {n cap : Nat} {z : List Int} (h : IsRow .u8 w a n cap z) : ∃ bs, Sl encB w a n bs ∧ n ≤ cap ∧ n ≤ maxLen := by
  obtain ⟨bs, hb, hm⟩ := Bs.ofRow h
  exact ⟨bs, hb.sl, Row.cap h, hm⟩
theorem own_itok {w : World} {B : Nat} {F : List IW} (h : ∀ f ∈ F, w.ownsRow B 5 1 (.slice f.da f.dn f.dc) f.dn (f.data.map encB)) : ∀ f ∈ F, Sl encB w f.da f.dn f.data ∧ f.dn ≤ f.dc := by
  intro f hf
  obtain ⟨a, c, he, hs, hc⟩ := Sl.ofOwn (h f hf)
  cases he
  exact ⟨hs, hc⟩
set_option maxRecDepth 100000 in
set_option maxHeartbeats 8000000 in
theorem walk_JarReads (a : Option Addr) (n cap : Nat) (z : List Int) (w : World) (h0 : IsRow .u8 w a n cap z) :
    Calls Try.prog 3 #[.slice a n cap] w fun e w' => e = .returned (.bool true) ∧ Below w.heap.size w w' := by
  obtain ⟨bs, hs, hcap, hm⟩ := row_sl h0
  have HS := Lib.hid hs
  have HF := Lib.hid (fixed20 w)
  clear h0 hs
  unfold maxLen at hm
  by_cases hlong : (4000 < n ∧ n ≤ 65536) ∨ 65546 < n
  · rcases hlong with ⟨h6, h4⟩ | h4
    · have e1 : decide ((4000 : Int) < n) = true := by simp; omega
      have e2 : decide ((n : Int) ≤ 65536) = true := by simp; omega
      clear h6 h4
      go_enter Try.func3, Try.ntmps3
      go_wp2_with fail
      refine HF.out.mono ?_
      rintro e w1 ⟨rfl, hb1⟩
      have HB1 := Lib.hid hb1
      clear hb1
      go_wp2_with fail
      go_ret
      exact ⟨rfl, HB1.out⟩
    · have e1 : decide ((4000 : Int) < n) = true := by simp; omega
      have e2 : decide ((n : Int) ≤ 65536) = false := by simp; omega
      have e3 : decide ((65546 : Int) < n) = true := by simp; omega
      clear h4
      go_enter Try.func3, Try.ntmps3
      go_wp2_with fail
      refine HF.out.mono ?_
      rintro e w1 ⟨rfl, hb1⟩
      have HB1 := Lib.hid hb1
      clear hb1
      go_wp2_with fail
      go_ret
      exact ⟨rfl, HB1.out⟩
  have hn : n ≤ 65546 := by omega
  have HD := Lib.hid (fun w' (hb : Below w.heap.size w w') => Unpack_any w' a n cap bs (HS.out.below hb) (by omega) hcap)
  have HDR := Lib.hid (fun w' (hb : Below w.heap.size w w') => refUnpack_any w' a n cap bs (HS.out.below hb) (by omega) hcap)
  have HBK := Lib.hid (fun l => unpack_back (bs := bs) (l := l))
  have HFW := Lib.hid (fun e l => unpack_few (bs := bs) (l := l) (e := e))
  generalize unpackR bs = R at *
  obtain ⟨er, L⟩ := R
  replace HFW := Lib.hid (HFW.out er L rfl)
  have ew : (decide ((4000 : Int) < n) = false) ∨ (decide ((4000 : Int) < n) = true ∧ decide ((n : Int) ≤ 65536) = false) := by
    by_cases h6 : 4000 < n
    · exact .inr ⟨by simp; omega, by simp; omega⟩
    · exact .inl (by simp; omega)
  have e3 : decide ((65546 : Int) < n) = false := by simp; omega
  clear hlong
  rcases ew with e1 | ⟨e1, e2⟩
  all_goals
    go_enter Try.func3, Try.ntmps3
    go_wp2_with fail
    refine HF.out.mono ?_
    rintro e w1 ⟨rfl, hb1⟩
    have HB1 := Lib.hid hb1
    clear hb1
    go_wp2_with fail
    refine (HD.out _ HB1.out).mono ?_
    rintro e w2 ⟨v2, m2, F2, rfl, ho2, hf2, hd2, hb2⟩
    obtain ⟨a2, c2, rfl, hs2, hc2⟩ := Ss.ofOwn IW.cells_length (by decide) ho2
    have HI2 := Lib.hid (show Im w2 a2 m2 F2 from hs2)
    have HV2 := Lib.hid hf2
    have HO2 := Lib.hid (own_itok hd2)
    have HB2 := Lib.hid (HB1.out.trans (hb2.mono HB1.out.size))
    clear ho2 hf2 hd2 hb2 hs2
    go_wp2_with fail
    refine (HDR.out _ HB2.out).mono ?_
    rintro e w3 ⟨v3, m3, F3, rfl, ho3, hf3, hd3, hb3⟩
    obtain ⟨a3, c3, rfl, hs3, hc3⟩ := Ss.ofOwn IW.cells_length (by decide) ho3
    have hm3 : m3 = m2 := by
      have h1 : F3.length = F2.length := by have h := congrArg List.length (hf3.trans HV2.out.symm); simpa using h
      have h3 := hs3.1
      have h4 := HI2.out.1
      omega
    subst hm3
    have HI3 := Lib.hid (show Im w3 a3 m3 F3 from hs3)
    have HI2b := Lib.hid (HI2.out.below hb3)
    have HO2b := Lib.hid (show ∀ f ∈ F2, Sl encB w3 f.da f.dn f.data ∧ f.dn ≤ f.dc from fun f hf => ⟨(HO2.out f hf).1.below hb3, (HO2.out f hf).2⟩)
    have HO3 := Lib.hid (own_itok hd3)
    have HB3 := Lib.hid (HB2.out.trans (hb3.mono HB2.out.size))
    have HFF := Lib.hid (show F2.map IW.iv = F3.map IW.iv by rw [HV2.out, hf3])
    clear ho3 hf3 hd3 hb3 hs3
    have hm40 : m3 ≤ 40 := by
      have h1 := HFW.out.1
      have h2 := congrArg List.length HV2.out
      rw [List.length_map, HI2.out.1] at h2
      have h3 : L.length = m3 := h2.symm
      omega
    have HSM := Lib.hid (Same_yesJ w3 a2 a3 m3 c2 c3 F2 F3 HI2b.out HI3.out (fun f hf => (HO2b.out f hf).1) (fun f hf => (HO3.out f hf).1) HFF.out (by omega))
    go_wp2_with fail
    refine HSM.out.mono ?_
    rintro e w4 ⟨rfl, hb4⟩
    have HB4 := Lib.hid (HB3.out.trans (hb4.mono HB3.out.size))
    have HPK := Lib.hid (Pack_any w4 a2 m3 c2 F2 (HI2b.out.below hb4) (fun f hf => ⟨(HO2b.out f hf).1.below hb4, (HO2b.out f hf).2, by
      have h1 := HFW.out.2 f.iv (by rw [← HV2.out]; exact List.mem_map_of_mem hf)
      have h2 := (HO2b.out f hf).1.1
      have h3 : f.iv.data = f.data := rfl
      rw [h3, h2] at h1
      omega, by
      have h1 := (HFW.out.2 f.iv (by rw [← HV2.out]; exact List.mem_map_of_mem hf)).2
      exact Nat.le_trans h1 (by decide)⟩) (by omega))
    rw [HV2.out] at HPK
    clear hb4
    go_wp2_with fail
    refine HPK.out.mono ?_
    rintro e w5 ⟨a5, m5, c5, rfl, hs5, hc5, hb5⟩
    have HB5 := Lib.hid (HB4.out.trans (hb5.mono HB4.out.size))
    have HS5 := Lib.hid hs5
    clear hs5 hb5
    by_cases her : er = 0
    · subst her
      have HQ := Lib.hid (HBK.out L rfl)
      simp only at HS5 ⊢
      rw [HQ.out] at HS5 ⊢
      have cv1 := run_conv HS5.out c5
      have cv2 := run_conv (HS.out.below HB5.out) cap
      simp only at cv1 ⊢
      go_wp2_with fail
      go_ret
      exact ⟨rfl, HB5.out⟩
    · have ee : (er != 0) = true := by simp [her]
      clear her
      go_wp2_with fail
      go_ret
      exact ⟨rfl, HB5.out⟩
end Go.Proofs.Ytaedohlfcbppaaa
