/- jar: the walk of JarTurned. No condition. -/
import Derived.Test.YtaedohlfcbppaaaJarLaw2
import Derived.Test.YtaedohlfcbppaaaJarPlain6
namespace Go.Proofs.Ytaedohlfcbppaaa
open Go.ChangeShapes Go.WideShapes Go.ChangeAt Go.RowKit
theorem sum_turn {bs cs : List UInt8} {W : BitVec 32} {k : Nat} (h : crc32 0xFFFFFFFF#32 cs = crc32 0xFFFFFFFF#32 bs ^^^ iter D32 k W) : sumN bs = sumN cs ↔ nz W = false := by
  have hS : ∀ xs : List UInt8, xs.foldl downByte 4294967295 = E (crc32 0xFFFFFFFF#32 xs) := fun xs => by rw [E_of (n := 32) (x := 4294967295) (by decide) (by decide), down_crc]; rfl
  have hEnd := turn_end D32_zero iter32_0 h
  rw [← not32_inj, ← hS, ← hS, up_sumN, up_sumN] at hEnd
  rw [← hEnd]
  omega
theorem row_slJ {w : World} {a : Option Addr} {n cap : Nat} {z : List Int} (h : IsRow .u8 w a n cap z) : ∃ bs, Sl encB w a n bs ∧ n ≤ cap := by
  obtain ⟨bs, hb, _⟩ := Bs.ofRow h
  exact ⟨bs, hb.sl, Row.cap h⟩
set_option maxRecDepth 100000 in
set_option maxHeartbeats 8000000 in
theorem walk_JarTurned (name : ByteArray) (a : Option Addr) (n cap : Nat) (z : List Int) (at_ by_ : Int) (a4 : Option Addr) (n4 cap4 : Nat) (z4 : List Int) (w : World)
    (h0 : name.size ≤ maxLen) (h1 : IsRow .u8 w a n cap z) (hat : (Lit.int .u16 at_).wf = true) (hby : (Lit.int .u32 by_).wf = true) (h4 : IsRow .u8 w a4 n4 cap4 z4) :
    Calls Try.prog 4 #[.string name, .slice a n cap, .int .u16 at_, .int .u32 by_, .slice a4 n4 cap4] w fun e w' => e = .returned (.bool true) ∧ Below w.heap.size w w' := by
  obtain ⟨nm, rfl⟩ : ∃ l : List UInt8, name = ⟨l.toArray⟩ := ⟨name.data.toList, by cases name; simp⟩
  have hnl : nm.length ≤ 9223372036854775807 := by unfold maxLen at h0; simpa [ByteArray.size] using h0
  obtain ⟨p, rfl, hp⟩ := wf_nat (m := 65535) hat rfl rfl
  obtain ⟨by0, by1⟩ := bounds_u32 hby
  obtain ⟨ds, hds, hcap⟩ := row_slJ h1
  obtain ⟨es, hes, hcap4⟩ := row_slJ h4
  have HD := Lib.hid hds
  have HE := Lib.hid hes
  have HF := Lib.hid (fixed20 w)
  have HNM := Lib.hid (fun w' => refIsName_big w' nm hnl)
  have HNL := Lib.hid (fun h => name_len (s := nm) h)
  have HPT := Lib.hid (fun h => pack_two (nm := nm) (ds := ds) (es := es) h)
  have HUT := Lib.hid (fun cs h => unpack_turn (nm := nm) (ds := ds) (cs := cs) (es := es) h)
  clear h0 h1 hat hby h4 hds hes
  generalize nameOk nm = ok at *
  by_cases hbig : 1500 < n
  · have e1 : decide ((1500 : Int) < n) = true := by simp; omega
    clear hbig
    go_enter Try.func4, Try.ntmps4
    go_wp2_with fail
    refine HF.out.mono ?_
    rintro e w1 ⟨rfl, hb1⟩
    have HB1 := Lib.hid hb1
    clear hb1
    go_wp2_with fail
    go_ret
    exact ⟨rfl, HB1.out⟩
  have e1 : decide ((1500 : Int) < n) = false := by simp; omega
  have hn1 : n ≤ 1500 := by omega
  clear hbig
  by_cases hbig : 500 < n4
  · have e2 : decide ((500 : Int) < n4) = true := by simp; omega
    clear hbig
    go_enter Try.func4, Try.ntmps4
    go_wp2_with fail
    refine HF.out.mono ?_
    rintro e w1 ⟨rfl, hb1⟩
    have HB1 := Lib.hid hb1
    clear hb1
    go_wp2_with fail
    go_ret
    exact ⟨rfl, HB1.out⟩
  have e2 : decide ((500 : Int) < n4) = false := by simp; omega
  have hn4 : n4 ≤ 500 := by omega
  clear hbig
  go_enter Try.func4, Try.ntmps4
  go_wp2_with fail
  refine HF.out.mono ?_
  rintro e w1 ⟨rfl, hb1⟩
  have HB1 := Lib.hid hb1
  clear hb1
  go_wp2_with fail
  refine (HNM.out _).mono ?_
  rintro e w2 ⟨rfl, rfl⟩
  cases ok
  · go_wp2_with fail
    go_ret
    exact ⟨rfl, HB1.out⟩
  by_cases hz : nm = [122]
  · have ez : (nm == [122]) = true := by simp [hz]
    clear hz
    go_wp2_with fail
    go_ret
    exact ⟨rfl, HB1.out⟩
  have ez : (nm == [122]) = false := by simp [hz]
  have hdl := HD.out.1
  have hel := HE.out.1
  have hnl2 := HNL.out rfl
  have HR := Lib.hid (HPT.out rfl hz (by omega) (by omega))
  have HU := Lib.hid (fun cs hl => HUT.out cs rfl hz hl (by omega) (by omega))
  clear hz HPT HUT HNM HNL hnl HF
  have HAL := Lib.hid (HB1.out.alloc HB1.out.size (.cells #[.string ⟨nm.toArray⟩, .slice a n cap, .string ⟨#[122]⟩, .slice a4 n4 cap4] 36))
  have HPK := Lib.hid (refPack_own (w2.alloc (.cells #[.string ⟨nm.toArray⟩, .slice a n cap, .string ⟨#[122]⟩, .slice a4 n4 cap4] 36)) (some ⟨w2.heap.size, 0, none⟩) 2 2 [⟨nm, a, n, cap, ds⟩, ⟨[122], a4, n4, cap4, es⟩]
    (by
      have h := own_litJ w2 w2.heap.size #[.string ⟨nm.toArray⟩, .slice a n cap, .string ⟨#[122]⟩, .slice a4 n4 cap4] 36 2 2 (Nat.le_refl _) rfl (by decide)
      obtain ⟨a', c', he, hss, _⟩ := Ss.ofOwn (xs := [(⟨nm, a, n, cap, ds⟩ : IW), ⟨[122], a4, n4, cap4, es⟩]) IW.cells_length (by decide) h
      cases he
      exact hss)
    (by
      intro f hf
      simp only [List.mem_cons, List.not_mem_nil, or_false] at hf
      rcases hf with rfl | rfl
      · exact ⟨HD.out.below HAL.out, hcap, by simp only; omega, by simp only; omega⟩
      · exact ⟨HE.out.below HAL.out, hcap4, by simp only; omega, by simp⟩)
    (by
      intro f hf
      simp only [List.mem_cons, List.not_mem_nil, or_false] at hf
      rcases hf with rfl | rfl
      · simp only; omega
      · simp only; omega) (by decide) (by decide))
  rw [show List.map IW.iv [(⟨nm, a, n, cap, ds⟩ : IW), ⟨[122], a4, n4, cap4, es⟩] = [⟨nm, ds⟩, ⟨[122], es⟩] from rfl, HR.out] at HPK
  go_wp2_with fail
  refine HPK.out.mono ?_
  rintro e w3 ⟨a3, m3, c3, rfl, ho3, hb3⟩
  simp only at ho3
  rw [hdl] at ho3
  have HO3 := Lib.hid (own_mono ho3 HAL.out.size)
  have HB3 := Lib.hid (HAL.out.trans (hb3.mono HAL.out.size))
  have hm3 : m3 = 24 + nm.length + n + n4 := by
    have h := ho3.1
    rw [List.length_map, List.length_append, List.length_append, preT_length, postT_length, hdl, hel] at h
    omega
  have HDL := Lib.hid hdl
  have HEL := Lib.hid hel
  have HM3 := Lib.hid hm3
  have hm5 : m3 ≤ 100000 := by omega
  have hm1 : 0 < m3 := by omega
  clear ho3 hb3 HPK HAL hdl hel HR hm3
  go_wp2_with fail
  go_loopw [13, 49] (fun t i wr => ∃ k : Nat, k ≤ 32 ∧ i = .int .i64 k ∧ ∃ (cs : List UInt8) (W : BitVec 32), t = .bool (nz W) ∧ Hid (cs.length = n) ∧ Hid (wr.ownsRow w.heap.size 5 1 (.slice a3 m3 c3) m3 ((preT nm n ++ cs ++ postT ds es).map encB)) ∧ Hid (Below w.heap.size w wr) ∧
      Hid (crc32 0xFFFFFFFF#32 cs = crc32 0xFFFFFFFF#32 ds ^^^ iter D32 (8 * n - p) W) ∧ Hid (∀ j, k ≤ j → W.getLsbD j = false)) (fun _ i _ => 32 - (intOf i).toNat)
  case atStart => exact ⟨0, by omega, rfl, ds, 0#32, rfl, HDL, HO3, HB3, by show _ = _; rw [iter32_0]; simp, fun j _ => by simp⟩
  case round =>
    obtain ⟨k, hk, rfl, cs, W, rfl, HCL, HO, HW, HC, HV⟩ := hrel
    by_cases hlt : k < 32
    · have hb0 : 0 ≤ by_ / 2 ^ k := Int.ediv_nonneg by0 (Int.pow_nonneg (by decide))
      by_cases hbit : (by_ / 2 ^ k) % 2 = 1
      · have hbB : ((by_ / 2 ^ k) % 2 == 1) = true := by simp [hbit]
        clear hbit
        by_cases hin : p + k < 8 * n
        · obtain ⟨g, rfl, hg0, hg1⟩ := own_addr HO.out (by omega)
          have hcl := HCL.out
          have hm3 := HM3.out
          have hel := HEL.out
          have hq : (p + k) / 8 < cs.length := by omega
          have hq' : 10 + nm.length + (p + k) / 8 < m3 := by omega
          have hpl := preT_length nm n
          have hq2 : (preT nm n).length + (p + k) / 8 < (preT nm n ++ cs ++ postT ds es).length := by simp only [List.length_append]; omega
          clear hm3 hel
          have hcell := own_cellB HO.out ((preT nm n).length + (p + k) / 8) hq2
          rw [get_mid _ _ _ _ hq, hpl] at hcell
          have hfr := HO.out.frozenAt (10 + nm.length + (p + k) / 8)
          obtain ⟨y, V, e1', e2', e3', e4'⟩ := turn32_step 0xFFFFFFFF#32 ds cs n p k W hcl hlt hin hq HC.out HV.out
          obtain ⟨x, hx⟩ : ∃ x, x = cs[(p + k) / 8] := ⟨_, rfl⟩
          rw [← hx] at hcell e1'
          have E1 := Lib.hid e1'
          have E2 := Lib.hid e2'
          have E3 := Lib.hid e3'
          have E4 := Lib.hid e4'
          have HST := Lib.hid (show (preT nm n ++ cs ++ postT ds es).set (10 + nm.length + (p + k) / 8) y = preT nm n ++ cs.set ((p + k) / 8) y ++ postT ds es by rw [← hpl]; exact set_mid _ _ _ _ _ hq)
          clear e1' e2' e3' e4' hx hq2 hpl hcl
          have hu := u8_lt x
          go_wp2_with fail
          go_roundw
          case rel =>
            rw [E1.out]
            have hst := HO.out.stored (10 + nm.length + (p + k) / 8) (encB y)
            refine ⟨k + 1, by omega, by go_num, cs.set ((p + k) / 8) y, V, by rw [E4.out], Lib.hid (by rw [List.length_set]; exact HCL.out), ?_, HW.out.setCell hg0 _, E2.out, E3.out⟩
            show World.ownsRow _ _ _ _ _ _ _
            rw [← HST.out, List.map_set]
            exact hst.1
          case measure => simp [intOf]; omega
        · go_wp2_with fail
          go_roundw
          case rel => exact ⟨k + 1, by omega, by go_num, cs, W, rfl, HCL, HO, HW, HC, fun j hj => HV.out j (by omega)⟩
          case measure => simp [intOf]; omega
      · have hbB : ((by_ / 2 ^ k) % 2 == 1) = false := by simp [hbit]
        clear hbit
        go_wp2_with fail
        go_roundw
        case rel => exact ⟨k + 1, by omega, by go_num, cs, W, rfl, HCL, HO, HW, HC, fun j hj => HV.out j (by omega)⟩
        case measure => simp [intOf]; omega
    · obtain ⟨a5, c5, he, hs5, hc5⟩ := Sl.ofOwn HO.out
      cases he
      have hu := HU.out cs (by rw [HCL.out, HDL.out])
      rw [HDL.out] at hu
      have HX := Lib.hid (Unpack_any wr a3 m3 c3 _ hs5 (by omega) hc5)
      have HSI := Lib.hid (sum_turn HC.out)
      generalize unpackR (preT nm n ++ cs ++ postT ds es) = R at *
      obtain ⟨er, ul⟩ := R
      simp only at hu
      have HER := Lib.hid (show (nz W = false → er = 0) ∧ (nz W = true → er = 7) from ⟨fun h => by rw [hu, if_pos (HSI.out.2 h)], fun h => by rw [hu, if_neg (fun e => by rw [HSI.out.1 e] at h; cases h)]⟩)
      clear hu HSI hs5 HC HV HO
      generalize nz W = t at *
      cases t
      · obtain rfl := HER.out.1 rfl
        go_wp2_with fail
        refine HX.out.mono ?_
        rintro e w7 ⟨v7, m7, F7, rfl, _, _, _, hb7⟩
        have HB7 := Lib.hid (HW.out.trans (hb7.mono HW.out.size))
        clear hb7
        go_wp2_with fail
        go_ret
        exact ⟨rfl, HB7.out⟩
      · obtain rfl := HER.out.2 rfl
        go_wp2_with fail
        refine HX.out.mono ?_
        rintro e w7 ⟨v7, m7, F7, rfl, _, _, _, hb7⟩
        have HB7 := Lib.hid (HW.out.trans (hb7.mono HW.out.size))
        clear hb7
        go_wp2_with fail
        go_ret
        exact ⟨rfl, HB7.out⟩
end Go.Proofs.Ytaedohlfcbppaaa
