/- nor: the reference's Erase. No condition. -/
import Derived.Test.YtjlcgffcfhfffaaNorFn8
namespace Go.Proofs.Ytjlcgffcfhfffaa
open Go.ChangeShapes Go.WideShapes Go.ChangeAt Go.RowKit
set_option maxRecDepth 100000 in
set_option maxHeartbeats 4000000 in
theorem refErase_no (w : World) (g gb gc cb cc : Nat) (f : Fl) (hf : FlB w g gb gc cb cc f) (s : Int) (hs : IntR s) (h : f.erases s = false) :
    Calls Try.prog 29 #[.pointer (some ⟨g, 0, none⟩), .int .i64 s] w (Turned 53 w g gb gc cb cc (f.erase s) (.returned (.int .i64 (f.eraseE s)))) := by
  obtain ⟨p1, p2⟩ := hs
  obtain ⟨c0, c1, c2, c3, c4, c5, c6, c7, c8⟩ := hf.cells
  have hS1 := hf.ok.s1
  have hS2 := hf.ok.s2
  have hcl := hf.ok.hc
  have HF := Lib.hid hf
  rw [Fl.erase_no h]
  unfold Fl.erases at h
  unfold Fl.eraseE
  cases hd : f.down with
  | true =>
    rw [hd] at c5
    rw [if_pos rfl]
    clear h hf
    go_enter Try.func29, Try.ntmps29
    go_wp2_with fail
    go_ret
    exact ⟨rfl, HF.out, Kept.refl _ _ _ _⟩
  | false =>
    rw [hd] at c5 h
    simp only [Bool.not_false, Bool.true_and] at h
    rw [if_neg (by decide)]
    by_cases k : 0 ≤ s ∧ s < f.S
    · rw [decide_eq_true k, Bool.true_and] at h
      have hcn := of_decide_eq_false h
      rw [if_pos k, if_neg hcn]
      obtain ⟨i, rfl⟩ : ∃ i : Nat, s = (i : Int) := ⟨s.toNat, by omega⟩
      rw [Int.toNat_natCast] at hcn
      have hi : i < f.S := by omega
      have hr : w.cell? ⟨gc, i, none⟩ = some (.int .i64 ((f.cnt.getD i 0 : Nat) : Int)) := by
        rw [(hf.rc.cell i hi).1]
        have : i < f.cnt.length := by omega
        simp [List.getD, this, encI]
      generalize f.cnt.getD i 0 = x at hr hcn
      have k2 : ¬ (x : Int) < f.L := by omega
      have k3 : decide ((x : Int) < (f.L : Int)) = false := decide_eq_false k2
      clear hf h hcl
      go_enter Try.func29, Try.ntmps29
      go_wp2_with fail
      go_quiet (fail)
      go_wp2_with fail
      go_ret
      exact ⟨rfl, HF.out.drewN _, (Kept.refl _ _ _ _).drewN _⟩
    · rw [if_neg k]
      clear hf h hcl
      by_cases k1 : s < 0
      · go_enter Try.func29, Try.ntmps29
        go_wp2_with fail
        go_ret
        exact ⟨rfl, HF.out, Kept.refl _ _ _ _⟩
      · have k2 : (f.S : Int) ≤ s := by omega
        go_enter Try.func29, Try.ntmps29
        go_wp2_with fail
        go_ret
        exact ⟨rfl, HF.out, Kept.refl _ _ _ _⟩
set_option maxRecDepth 100000 in
set_option maxHeartbeats 8000000 in
theorem refErase_yes (w : World) (g gb gc cb cc : Nat) (f : Fl) (hf : FlB w g gb gc cb cc f) (s : Nat) (h : f.erases s = true) :
    Calls Try.prog 29 #[.pointer (some ⟨g, 0, none⟩), .int .i64 s] w (Turned 53 w g gb gc cb cc (f.erase s) (.returned (.int .i64 (f.eraseE s)))) := by
  obtain ⟨c0, c1, c2, c3, c4, c5, c6, c7, c8⟩ := hf.cells
  have hS1 := hf.ok.s1
  have hS2 := hf.ok.s2
  have hZ1 := hf.ok.z1
  have hZ2 := hf.ok.z2
  have hL2 := hf.ok.l2
  have hcl := hf.ok.hc
  have hbl := hf.ok.hb
  obtain ⟨q1, q2, q3⟩ := hf.caps
  have herase := h
  unfold Fl.erases at h
  simp only [Bool.and_eq_true, decide_eq_true_eq, Bool.not_eq_true'] at h
  obtain ⟨⟨hd, hs⟩, hcn⟩ := h
  rw [Int.toNat_natCast] at hcn
  have hsS : s < f.S := by omega
  have hpz : s * f.Z + f.Z ≤ f.S * f.Z := by
    have : (s + 1) * f.Z ≤ f.S * f.Z := Nat.mul_le_mul_right _ hsS
    rw [Nat.add_mul] at this; omega
  have hr : w.cell? ⟨gc, s, none⟩ = some (.int .i64 ((f.cnt.getD s 0 : Nat) : Int)) := by
    rw [(hf.rc.cell s hsS).1]
    have : s < f.cnt.length := by omega
    simp [List.getD, this, encI]
  have hm := (hf.rc.cell s hsS).2
  have hlt := hf.lt
  have HF0 := Lib.hid (fun n => hf.drewN n)
  have HK0 := Lib.hid (fun n => (Kept.refl g gb gc w).drewN n)
  rw [hd] at c5
  obtain ⟨f1, hf1⟩ : ∃ f1 : Fl, { f with cnt := f.cnt.set s (f.cnt.getD s 0 + 1) } = f1 := ⟨_, rfl⟩
  have HF11 := Lib.hid hf1
  have eS : f1.S = f.S := by rw [← hf1]
  have eZ : f1.Z = f.Z := by rw [← hf1]
  have eB : f1.bs = f.bs := by rw [← hf1]
  have eD : f1.down = false := by rw [← hf1]; exact hd
  have eW : f1.whole = f.whole := by rw [← hf1]; rfl
  have eP : f1.part f.Z = f.part f.Z := by rw [← hf1]; rfl
  have HF := Lib.hid hf
  have HE := Lib.hid (Fl.erase_done herase hf1)
  have HX := Lib.hid (And.intro eS (And.intro eZ (And.intro eB (And.intro eD (And.intro eW eP)))))
  generalize hx : f.cnt.getD s 0 = x at hr hcn
  have HXX := Lib.hid hx
  have k3 : decide ((x : Int) < (f.L : Int)) = true := decide_eq_true (by omega)
  have k4 : (x : Int) < f.L := by omega
  have HBL := Lib.hid hbl
  obtain ⟨p, hp⟩ : ∃ p : Nat, s * f.Z = p := ⟨_, rfl⟩
  rw [hp] at hpz HE
  have hpi : (s : Int) * (f.Z : Int) = (p : Int) := by rw [← hp]; simp
  have HPI := Lib.hid hpi
  have HP := Lib.hid hp
  have HST := Lib.hid (show encI (f.cnt.getD s 0 + 1) = .int .i64 ((x : Int) + 1) by rw [hx]; rfl)
  have HY := Lib.hid (show f1.tick.S * f1.tick.Z = f.S * f.Z ∧ f1.tick.Z = f.Z ∧ f1.tick.bs = f.bs ∧ f1.tick.keep = f.keep ∧ f1.whole = f.whole from by
    obtain ⟨t1, t2, t3, t4, t5, t6, t7⟩ := f1.tick_fields
    rw [t1, t2, t4, t6, ← hf1]; exact ⟨rfl, rfl, rfl, rfl, rfl⟩)
  have e1 := hf.ok.k1
  have e2 := hf.ok.k2
  obtain ⟨mx, hmx, hmx2, hmx0, hmx1⟩ : ∃ mx : Int, (if f.keep < 0 then 0 else f.keep) = mx ∧ mx = max f.keep 0 ∧ 0 ≤ mx ∧ mx ≤ 9223372036854775807 := ⟨_, rfl, by split <;> omega, by split <;> omega, by split <;> omega⟩
  obtain ⟨pp, hpp, hpp3, hpp2⟩ : ∃ pp : Int, mx % ((f.Z : Int) + 1) = pp ∧ Int.tmod mx ((f.Z : Int) + 1) = pp ∧ pp = f.part f.Z := ⟨_, rfl, by rw [Int.tmod_eq_emod_of_nonneg (by omega)], by rw [hmx2, ← part_int, Int.tmod_eq_emod_of_nonneg (by omega)]⟩
  have HPP := Lib.hid hpp2
  have HMX := Lib.hid (And.intro hmx (And.intro hpp hpp3))
  have k5 : ¬ (s : Int) < 0 := by omega
  have k6 : ¬ (f.S : Int) ≤ s := by omega
  obtain ⟨k, hk, hkz⟩ : ∃ k : Nat, (if f.whole = true then (f.Z : Int) else f.part f.Z) = k ∧ k ≤ f.Z := by
    split
    · exact ⟨_, rfl, Nat.le_refl _⟩
    · exact ⟨_, rfl, f.part_le _⟩
  have HKK := Lib.hid hk
  clear hf herase hf1 eS eZ eB eD eW eP hd hs hcl hbl hx hp hpi hmx hpp hpp2 hpp3 hmx2 hk
  go_enter Try.func29, Try.ntmps29
  go_wp2_with fail
  go_quiet (fail)
  go_upto_region 7 with fail
  replace HF0 := HF0.out nq
  replace HK0 := HK0.out nq
  clear c0 c1 c2 c3 c4 c5 c6 c7 c8 k3 hr hm
  generalize w.drewN nq = W0 at HF0 HK0 ⊢
  obtain ⟨c0, c1, c2, c3, c4, c5, c6, c7, c8⟩ := HF0.cells
  have hr : W0.cell? ⟨gc, s, none⟩ = some (.int .i64 (x : Int)) := by
    rw [(HF0.rc.cell s hsS).1, ← HXX.out]
    have : s < f.cnt.length := by rw [HF0.ok.hc]; exact hsS
    simp [List.getD, this, encI]
  have hm := (HF0.rc.cell s hsS).2
  have HF1 := (HF0.setCnt (s := s) (by rw [HXX.out]; exact hcn)).drew
  have HK1 := (HK0.set (o := s) (.inr (.inr rfl)) (encI (f.cnt.getD s 0 + 1))).drew
  rw [HST.out] at HF1 HK1
  rw [HF11.out] at HF1
  replace HF1 := Lib.hid HF1
  replace HK1 := Lib.hid HK1
  clear HF0 HK0
  go_still_tail 14, (by kernel_rfl)
  go_upto_region 8 with fail
  generalize hW : (W0.setCell ⟨gc, s, none⟩ (.int .i64 ((x : Int) + 1))).drew = W1 at HF1 HK1 ⊢
  clear hW c0 c1 c2 c3 c4 c5 c6 c7 c8 k4 hr hm
  obtain ⟨c0, c1, c2, c3, c4, c5, c6, c7, c8⟩ := HF1.out.cells
  obtain ⟨eS, eZ, eB, eD, eW, eP⟩ := HX.out
  rw [eZ] at c1
  have HT := refWhole_any W1 g gb gc cb cc f1 HF1.out
  rw [eW] at HT
  replace HT := Lib.hid HT
  clear eS eZ eB eD eW eP c0 c2 c3 c4 c5 c6 c7 c8 HF1
  replace HBL := Lib.hid (show f.bs.length = f.S * f.Z from HBL.out)
  generalize f.S * f.Z = N at hpz q1 q3 HBL HY
  generalize hZ : f.Z = Z at *
  go_upto_region 10 with fail
  go_wp2_with fail
  with_reducible refine HT.out.mono ?_
  rintro e W3 ⟨rfl, hF3, hK3⟩
  have HF3 := Lib.hid hF3
  have HK3 := Lib.hid (HK1.out.trans hK3)
  clear hF3 hK3 HT HK1 c1
  have hy := HY.out
  go_upto_if 57 with fail
  go_cut [5, 6] (fun s5 s6 wx => s5 = .int .i64 k ∧ s6 = .int .i64 (f.eraseE s) ∧ FlB wx g gb gc cb cc f1.tick ∧ Kept g gb gc w wx)
  case first =>
    cases hw : f.whole with
    | true =>
      have h1 := HKK.out
      rw [if_pos hw] at h1
      have h2 := (HE.out.1 hw).1
      have HR := Lib.hid (And.intro h1 h2)
      clear h1 h2 hw hy
      go_wp2_with fail
      go_meet
      exact ⟨by rw [HR.out.1], by rw [HR.out.2], HF3.out, HK3.out⟩
    | false =>
      have h1 := HKK.out
      rw [if_neg (by rw [hw]; decide)] at h1
      have h2 := (HE.out.2 hw).1
      have HR := Lib.hid (And.intro h1 h2)
      obtain ⟨c0, c1, c2, c3, c4, c5, c6, c7, c8⟩ := HF3.out.cells
      obtain ⟨y1, y2, y3, y4, y5⟩ := hy
      rw [y4] at c7
      rw [y2] at c1
      obtain ⟨m1, m2, m3⟩ := HMX.out
      have w1 : IntKind.i64.wrap ((Z : Int) + 1) = (Z : Int) + 1 := IntWalk.i64_in _ (by omega)
      clear h1 h2 hw y1 y2 y3 y4 y5 c0 c2 c3 c4 c5 c6 c8
      go_wp2_with fail
      go_quiet (fail)
      go_wp2_with fail
      go_meet
      exact ⟨by rw [HPP.out, HR.out.1], by rw [HR.out.2], HF3.out.drewN _, HK3.out.drewN _⟩
  case rest =>
    obtain ⟨rfl, rfl, hF4, hK4⟩ := hcut
    have HF4 := Lib.hid hF4
    have HK4 := Lib.hid hK4
    clear hF4 hK4 HF3 HK3
    obtain ⟨y1, y2, y3, y4, y5⟩ := hy
    have HTB := Lib.hid (show f1.tick.bs.length = N by rw [y3]; exact HBL.out)
    have hlay0 : ({ f1.tick with bs := Fl.lay f1.tick.bs p (List.replicate 0 255) } : Fl) = f1.tick := by rw [List.replicate_zero, Fl.lay_nil]
    have HL0 := Lib.hid hlay0
    have hpi := HPI.out
    have hpw : IntKind.i64.wrap (p : Int) = (p : Int) := IntWalk.i64_in _ (by omega)
    have g1 : (0 : Int) ≤ p := by omega
    have g7 : (0 : Int) ≤ k := by omega
    clear hlay0 y1 y2 y3 y4 y5
    obtain ⟨Er, hEr⟩ : ∃ Er, f.eraseE s = Er := ⟨_, rfl⟩
    rw [hEr] at HE
    have HER := Lib.hid hEr
    rw [hEr]
    clear hEr
    go_wp2_with fail
    go_loopg [7] k (fun gn i wr => ∃ j : Nat, j ≤ k ∧ gn = k - j ∧ i = .int .i64 j ∧ Hid (FlB wr g gb gc cb cc { f1.tick with bs := Fl.lay f1.tick.bs p (List.replicate j 255) }) ∧ Hid (Kept g gb gc w wr))
    case atStart => exact ⟨0, by omega, by omega, by go_num, by rw [HL0.out]; exact HF4, HK4⟩
    case round =>
      obtain ⟨j, hj, rfl, rfl, HF5, HK5⟩ := hrel
      clear HF4 HK4
      obtain ⟨c0, c1, c2, c3, c4, c5, c6, c7, c8⟩ := HF5.out.cells
      rw [show (Fl.S { f1.tick with bs := Fl.lay f1.tick.bs p (List.replicate j 255) }) * (Fl.Z { f1.tick with bs := Fl.lay f1.tick.bs p (List.replicate j 255) }) = N from HY.out.1] at c3
      rw [show (Fl.Z { f1.tick with bs := Fl.lay f1.tick.bs p (List.replicate j 255) }) = Z from HY.out.2.1] at c1
      clear c0 c2 c4 c5 c6 c7
      by_cases hlt : j < k
      · obtain ⟨hm4, hm5⟩ := HF5.out.byte (p + j) (by show p + j < (Fl.lay f1.tick.bs p (List.replicate j 255)).length; rw [Fl.lay_length _ _ _ (by rw [HTB.out]; simp; omega), HTB.out]; omega)
        have hsn := Fl.lay_snoc (xs := f1.tick.bs) (p := p) (j := j) 255 (by rw [HTB.out]; omega)
        have HF6 := HF5.out.drew.setByte (p + j) 255
        rw [← hsn] at HF6
        have HF6 := Lib.hid HF6
        have HK6 := Lib.hid (HK5.out.drew.set (o := p + j) (.inr (.inl rfl)) (encB 255))
        clear hsn
        have w1 : IntKind.i64.wrap ((p : Int) + j) = (p : Int) + j := IntWalk.i64_in _ (by omega)
        have w2 : (0 : Int) ≤ (p : Int) + j := by omega
        have w3 : (p : Int) + j < N := by omega
        have w4 : ((p : Int) + j).toNat = p + j := by omega
        go_upto_region 16 with fail
        go_still_tail 14, (by kernel_rfl)
        go_wp2_with fail
        go_roundg (k - (j + 1))
        case measure => omega
        case rel => exact ⟨j + 1, by omega, rfl, by go_num, HF6, HK6⟩
      · obtain rfl : j = k := by omega
        have w1 : IntKind.i64.wrap ((p : Int) + j) = (p : Int) + j := IntWalk.i64_in _ (by omega)
        have w2 : (0 : Int) ≤ (p : Int) + j := by omega
        have w4 : ((p : Int) + j).toNat = p + j := by omega
        cases hw : f.whole with
        | true =>
          have hjZ : j = Z := by have := HKK.out; rw [if_pos hw] at this; omega
          have HR := Lib.hid (HE.out.1 hw)
          have hjz : ¬ j < Z := by omega
          have HJ := Lib.hid hjZ
          clear hw hjZ
          go_wp2_with fail
          go_ret
          refine ⟨by rw [HER.out]; rfl, ?_, HK5.out⟩
          have h4 := HF5.out
          rw [HJ.out] at h4
          rw [HR.out.2]; exact h4
        | false =>
          have hjZ : j = f.part Z := by have := HKK.out; rw [if_neg (by rw [hw]; decide)] at this; omega
          have HR := Lib.hid (HE.out.2 hw)
          rw [← hjZ] at HR
          clear hw hjZ
          by_cases hjz : j < Z
          · obtain ⟨hm4, hm5⟩ := HF5.out.byte (p + j) (by show p + j < (Fl.lay f1.tick.bs p (List.replicate j 255)).length; rw [Fl.lay_length _ _ _ (by rw [HTB.out]; simp; omega), HTB.out]; omega)
            have HF6 := Lib.hid (HF5.out.drew.setByte (p + j) ((Fl.lay f1.tick.bs p (List.replicate j 255)).getD (p + j) 0 ||| f1.tick.mask))
            have HK6 := Lib.hid (HK5.out.drew.set (o := p + j) (.inr (.inl rfl)) (encB ((Fl.lay f1.tick.bs p (List.replicate j 255)).getD (p + j) 0 ||| f1.tick.mask)))
            have hor := u8_or ((Fl.lay f1.tick.bs p (List.replicate j 255)).getD (p + j) 0) f1.tick.mask
            unfold encB at HF6 HK6
            rw [← hor] at HF6 HK6
            have w3 : (p : Int) + j < N := by omega
            clear hor
            go_upto_region 18 with fail
            go_still_tail 35, (by kernel_rfl)
            go_wp2_with fail
            go_ret
            refine ⟨by rw [HER.out, HR.out.1]; rfl, ?_, HK6.out⟩
            rw [HR.out.2.1 hjz]; exact HF6.out
          · go_wp2_with fail
            go_ret
            refine ⟨by rw [HER.out, HR.out.1]; rfl, ?_, HK5.out⟩
            rw [HR.out.2.2 hjz]; exact HF5.out
theorem refErase_any (w : World) (g gb gc cb cc : Nat) (f : Fl) (hf : FlB w g gb gc cb cc f) (s : Int) (hs : IntR s) :
    Calls Try.prog 29 #[.pointer (some ⟨g, 0, none⟩), .int .i64 s] w (Turned 53 w g gb gc cb cc (f.erase s) (.returned (.int .i64 (f.eraseE s)))) := by
  cases h : f.erases s with
  | false => exact refErase_no w g gb gc cb cc f hf s hs h
  | true =>
    have h0 : 0 ≤ s := by
      unfold Fl.erases at h
      simp only [Bool.and_eq_true, decide_eq_true_eq, Bool.not_eq_true'] at h
      exact h.1.2.1
    obtain ⟨n, rfl⟩ : ∃ n : Nat, s = (n : Int) := ⟨s.toNat, by omega⟩
    exact refErase_yes w g gb gc cb cc f hf n h
end Go.Proofs.Ytjlcgffcfhfffaa
