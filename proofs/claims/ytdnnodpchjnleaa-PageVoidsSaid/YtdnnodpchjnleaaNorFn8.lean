/- nor: Erase. No condition. -/
import Derived.Test.YtdnnodpchjnleaaNorErase
import Derived.StillTailTactics
namespace Go.Proofs.Ytdnnodpchjnleaa
open Go.ChangeShapes Go.WideShapes Go.ChangeAt Go.RowKit
theorem IsFl.drewN {tF eb ec : TypeId} {w : World} {g gb gc cb cc : Nat} {f : Fl} (h : IsFl tF eb ec w g gb gc cb cc f) (n : Nat) : IsFl tF eb ec (w.drewN n) g gb gc cb cc f := ⟨h.st, h.rb, h.rc, h.n1, h.n2, h.n3, h.ok⟩
theorem IsFl.drew {tF eb ec : TypeId} {w : World} {g gb gc cb cc : Nat} {f : Fl} (h : IsFl tF eb ec w g gb gc cb cc f) : IsFl tF eb ec w.drew g gb gc cb cc f := ⟨h.st, h.rb, h.rc, h.n1, h.n2, h.n3, h.ok⟩
theorem Kept.drewN {g gb gc : Nat} {w w1 : World} (h : Kept g gb gc w w1) (n : Nat) : Kept g gb gc w (w1.drewN n) := ⟨h.os, h.tape, h.output, h.size, h.block⟩
set_option maxRecDepth 100000 in
set_option maxHeartbeats 4000000 in
theorem Erase_no (w : World) (g gb gc cb cc : Nat) (f : Fl) (hf : FlA w g gb gc cb cc f) (s : Int) (hs : IntR s) (h : f.erases s = false) :
    Calls Try.prog 17 #[.pointer (some ⟨g, 0, none⟩), .int .i64 s] w (Turned 71 w g gb gc cb cc (f.erase s) (.returned (.int .i64 (f.eraseE s)))) := by
  obtain ⟨p1, p2⟩ := hs
  obtain ⟨c0, c1, c2, c3, c4, c5, c6, c7, c8⟩ := hf.cells
  have hS1 := hf.ok.s1
  have hS2 := hf.ok.s2
  have hcl := hf.ok.hc
  have HF := Lib.hid hf
  rw [Fl.erase_no h]
  unfold Fl.erases at h
  unfold Fl.eraseE
  have HW := within_any w s 0 ((f.S : Int) - 1)
  cases hd : f.down with
  | true =>
    rw [hd] at c5
    rw [if_pos rfl]
    clear h hf HW
    go_enter Try.func17, Try.ntmps17
    go_wp2_with fail
    go_ret
    exact ⟨rfl, HF.out, Kept.refl _ _ _ _⟩
  | false =>
    rw [hd] at c5 h
    simp only [Bool.not_false, Bool.true_and] at h
    rw [if_neg (by decide)]
    by_cases k : 0 ≤ s ∧ s < f.S
    · rw [decide_eq_true k, Bool.true_and] at h
      have hcn := of_decide_eq_false h
      rw [if_pos k, if_neg hcn]
      rw [show decide ((0 : Int) ≤ s ∧ s ≤ (f.S : Int) - 1) = true by exact decide_eq_true (by omega)] at HW
      obtain ⟨i, rfl⟩ : ∃ i : Nat, s = (i : Int) := ⟨s.toNat, by omega⟩
      rw [Int.toNat_natCast] at hcn
      have hi : i < f.S := by omega
      have hr : w.cell? ⟨gc, i, none⟩ = some (.int .i64 ((f.cnt.getD i 0 : Nat) : Int)) := by
        rw [(hf.rc.cell i hi).1]
        have : i < f.cnt.length := by omega
        simp [List.getD, this, encI]
      generalize f.cnt.getD i 0 = x at hr hcn
      have k2 : ¬ (x : Int) < f.L := by omega
      have k3 : decide ((x : Int) < (f.L : Int)) = false := decide_eq_false k2
      have HW := Lib.hid HW
      clear hf h hcl
      go_enter Try.func17, Try.ntmps17
      go_wp2_with fail
      with_reducible refine HW.out.mono ?_
      rintro e w1 ⟨rfl, rfl⟩
      go_wp2_with fail
      go_quiet (fail)
      go_wp2_with fail
      go_ret
      exact ⟨rfl, HF.out.drewN _, (Kept.refl _ _ _ _).drewN _⟩
    · rw [if_neg k]
      rw [show decide ((0 : Int) ≤ s ∧ s ≤ (f.S : Int) - 1) = false by exact decide_eq_false (by omega)] at HW
      have HW := Lib.hid HW
      clear hf h hcl
      go_enter Try.func17, Try.ntmps17
      go_wp2_with fail
      with_reducible refine HW.out.mono ?_
      rintro e w1 ⟨rfl, rfl⟩
      go_wp2_with fail
      go_ret
      exact ⟨rfl, HF.out, Kept.refl _ _ _ _⟩
set_option maxRecDepth 100000 in
set_option maxHeartbeats 8000000 in
theorem Erase_yes (w : World) (g gb gc cb cc : Nat) (f : Fl) (hf : FlA w g gb gc cb cc f) (s : Nat) (h : f.erases s = true) :
    Calls Try.prog 17 #[.pointer (some ⟨g, 0, none⟩), .int .i64 s] w (Turned 71 w g gb gc cb cc (f.erase s) (.returned (.int .i64 (f.eraseE s)))) := by
  obtain ⟨c0, c1, c2, c3, c4, c5, c6, c7, c8⟩ := hf.cells
  have hS1 := hf.ok.s1
  have hS2 := hf.ok.s2
  have hZ1 := hf.ok.z1
  have hZ2 := hf.ok.z2
  have hL2 := hf.ok.l2
  have hcl := hf.ok.hc
  have hbl := hf.ok.hb
  obtain ⟨q1, q2, q3⟩ := hf.caps
  have herase := h
  unfold Fl.erases at h
  simp only [Bool.and_eq_true, decide_eq_true_eq, Bool.not_eq_true'] at h
  obtain ⟨⟨hd, hs⟩, hcn⟩ := h
  rw [Int.toNat_natCast] at hcn
  have hsS : s < f.S := by omega
  have HW := within_any w s 0 ((f.S : Int) - 1)
  rw [show decide ((0 : Int) ≤ s ∧ (s : Int) ≤ (f.S : Int) - 1) = true by exact decide_eq_true (by omega)] at HW
  have hpz : s * f.Z + f.Z ≤ f.S * f.Z := by
    have : (s + 1) * f.Z ≤ f.S * f.Z := Nat.mul_le_mul_right _ hsS
    rw [Nat.add_mul] at this; omega
  have hr : w.cell? ⟨gc, s, none⟩ = some (.int .i64 ((f.cnt.getD s 0 : Nat) : Int)) := by
    rw [(hf.rc.cell s hsS).1]
    have : s < f.cnt.length := by omega
    simp [List.getD, this, encI]
  have hm := (hf.rc.cell s hsS).2
  have hlt := hf.lt
  have HF1 := Lib.hid (fun n => (hf.drewN n).setCnt hcn)
  have HK1 := Lib.hid (fun n => ((Kept.refl g gb gc w).drewN n).set (o := s) (.inr (.inr rfl)) (encI (f.cnt.getD s 0 + 1)))
  rw [hd] at c5
  obtain ⟨f1, hf1⟩ : ∃ f1 : Fl, { f with cnt := f.cnt.set s (f.cnt.getD s 0 + 1) } = f1 := ⟨_, rfl⟩
  rw [hf1] at HF1
  have eS : f1.S = f.S := by rw [← hf1]
  have eZ : f1.Z = f.Z := by rw [← hf1]
  have eB : f1.bs = f.bs := by rw [← hf1]
  have eD : f1.down = false := by rw [← hf1]; exact hd
  have eW : f1.whole = f.whole := by rw [← hf1]; rfl
  have eP : f1.part f.Z = f.part f.Z := by rw [← hf1]; rfl
  have HF := Lib.hid hf
  have HE := Lib.hid (Fl.erase_done herase hf1)
  have HX := Lib.hid (And.intro eS (And.intro eZ (And.intro eB (And.intro eD (And.intro eW eP)))))
  generalize hx : f.cnt.getD s 0 = x at hr hcn HK1
  have k3 : decide ((x : Int) < (f.L : Int)) = true := decide_eq_true (by omega)
  have k4 : (x : Int) < f.L := by omega
  have HBL := Lib.hid hbl
  replace HW := Lib.hid HW
  obtain ⟨p, hp⟩ : ∃ p : Nat, s * f.Z = p := ⟨_, rfl⟩
  rw [hp] at hpz HE
  have hpi : (s : Int) * (f.Z : Int) = (p : Int) := by rw [← hp]; simp
  have HPI := Lib.hid hpi
  have HP := Lib.hid hp
  unfold encI at HK1
  rw [show ((x + 1 : Nat) : Int) = (x : Int) + 1 by omega] at HK1
  have HST := Lib.hid (show encI (f.cnt.getD s 0 + 1) = .int .i64 ((x : Int) + 1) by rw [hx]; rfl)
  rw [HST.out] at HF1
  clear hf herase hf1 eS eZ eB eD eW eP hd hs hcl hbl hx hp hpi
  go_enter Try.func17, Try.ntmps17
  go_wp2_with fail
  with_reducible refine HW.out.mono ?_
  rintro e w1 ⟨rfl, rfl⟩
  go_wp2_with fail
  go_quiet (fail)
  go_upto_region 8 with fail
  replace HF1 := Lib.hid (HF1.out nq)
  replace HK1 := Lib.hid (HK1.out nq)
  generalize hW : (w.drewN nq).setCell ⟨gc, s, none⟩ (.int .i64 ((x : Int) + 1)) = W1 at HF1 HK1 ⊢
  clear hW c0 c1 c2 c3 c4 c5 c6 c7 c8 k3 k4 hr hm
  obtain ⟨eS, eZ, eB, eD, eW, eP⟩ := HX.out
  obtain ⟨c0, c1, c2, c3, c4, c5, c6, c7, c8⟩ := HF1.out.cells
  rw [eS] at c0
  rw [eZ] at c1
  rw [eS, eZ] at c3
  have HT := fun n => torn_any (W1.drewN n) g gb gc cb cc f1 (HF1.out.drewN n) f.Z (by omega)
  rw [eW, eP] at HT
  obtain ⟨k, hk, hkz⟩ : ∃ k : Nat, (if f.whole = true then (f.Z : Int) else f.part f.Z) = k ∧ k ≤ f.Z := by
    split
    · exact ⟨_, rfl, Nat.le_refl _⟩
    · exact ⟨_, rfl, f.part_le _⟩
  rw [hk] at HT
  replace HT := Lib.hid HT
  have HKK := Lib.hid hk
  clear eS eZ eB eD eW eP c0 c2 c4 c5 c6 c7 c8 hk
  replace HBL := Lib.hid (show f.bs.length = f.S * f.Z from HBL.out)
  generalize f.S * f.Z = N at c3 hpz q1 q3 HBL
  generalize hZ : f.Z = Z at *
  have hpi := HPI.out
  have hpw : IntKind.i64.wrap ((s : Int) * (Z : Int)) = (p : Int) := by rw [hpi]; exact IntWalk.i64_in _ (by omega)
  have g1 : (0 : Int) ≤ p := by omega
  have g2 : (p : Int) ≤ N := by omega
  have g3 : (p : Int) ≤ cb := by omega
  have g4 : ¬ cb = p := by omega
  have g5 : (0 : Int) ≤ Z := by omega
  have g6 : (Z : Int) ≤ (cb : Int) - p := by omega
  go_quiet (fail)
  replace HT := Lib.hid (HT.out nq)
  replace HK1 := Lib.hid (HK1.out.drewN nq)
  generalize W1.drewN nq = W2 at HT HK1 ⊢
  clear HF1
  go_upto_region 9 with fail
  go_wp2_with fail
  with_reducible refine HT.out.mono ?_
  rintro e W3 ⟨rfl, hF3, hK3⟩
  have HF3 := Lib.hid hF3
  have HK3 := Lib.hid (HK1.out.trans hK3)
  clear hF3 hK3 HT HK1
  have HBL' : f1.tick.bs.length = N := by rw [f1.tick_fields.2.2.2.1, HX.out.2.2.1]; exact HBL.out
  have hlay0 : ({ f1.tick with bs := Fl.lay f1.tick.bs p (List.replicate 0 255) } : Fl) = f1.tick := by rw [List.replicate_zero, Fl.lay_nil]
  have HL0 := Lib.hid hlay0
  have HTB := Lib.hid HBL'
  clear HBL' hlay0
  have g7 : (0 : Int) ≤ k := by omega
  have g8 : (k : Int) ≤ (cb : Int) - p := by omega
  go_wp2_with fail
  go_loopg [80] k (fun gn i wr => ∃ j : Nat, j ≤ k ∧ gn = k - j ∧ i = .int .i64 j ∧ Hid (FlA wr g gb gc cb cc { f1.tick with bs := Fl.lay f1.tick.bs p (List.replicate j 255) }) ∧ Hid (Kept g gb gc w wr))
  case atStart => exact ⟨0, by omega, by omega, by go_num, by rw [HL0.out]; exact HF3, HK3⟩
  case round =>
    obtain ⟨j, hj, rfl, rfl, HF4, HK4⟩ := hrel
    clear HF3 HK3
    by_cases hlt : j < k
    · obtain ⟨hm4, hm5⟩ := HF4.out.byte (p + j) (by show p + j < (Fl.lay f1.tick.bs p (List.replicate j 255)).length; rw [Fl.lay_length _ _ _ (by rw [HTB.out]; simp; omega), HTB.out]; omega)
      have hsn := Fl.lay_snoc (xs := f1.tick.bs) (p := p) (j := j) 255 (by rw [HTB.out]; omega)
      have HF5 := HF4.out.setByte (p + j) 255
      rw [← hsn] at HF5
      have HF5 := Lib.hid HF5
      have HK5 := Lib.hid (HK4.out.set (o := p + j) (.inr (.inl rfl)) (encB 255))
      clear hsn
      go_wp2_with fail
      go_roundg (k - (j + 1))
      case measure => omega
      case rel => exact ⟨j + 1, by omega, rfl, by go_num, HF5, HK5⟩
    · obtain rfl : j = k := by omega
      cases hw : f.whole with
      | true =>
        have hjZ : j = Z := by have := HKK.out; rw [if_pos hw] at this; omega
        have HR := Lib.hid (HE.out.1 hw)
        have HJ := Lib.hid hjZ
        clear hw hjZ
        go_wp2_with fail
        go_ret
        refine ⟨by rw [HR.out.1]; rfl, ?_, HK4.out⟩
        have h4 := HF4.out
        rw [HJ.out] at h4
        rw [HR.out.2]; exact h4
      | false =>
        have hjZ : j = f.part Z := by have := HKK.out; rw [if_neg (by rw [hw]; decide)] at this; omega
        have HR := Lib.hid (HE.out.2 hw)
        rw [← hjZ] at HR
        clear hw hjZ
        by_cases hjz : j < Z
        · obtain ⟨hm4, hm5⟩ := HF4.out.byte (p + j) (by show p + j < (Fl.lay f1.tick.bs p (List.replicate j 255)).length; rw [Fl.lay_length _ _ _ (by rw [HTB.out]; simp; omega), HTB.out]; omega)
          obtain ⟨c0, c1, c2, c3, c4, c5, c6, c7, c8⟩ := HF4.out.cells
          have HF5 := Lib.hid (HF4.out.drew.setByte (p + j) ((Fl.lay f1.tick.bs p (List.replicate j 255)).getD (p + j) 0 ||| f1.tick.mask))
          have HK5 := Lib.hid (HK4.out.drew.set (o := p + j) (.inr (.inl rfl)) (encB ((Fl.lay f1.tick.bs p (List.replicate j 255)).getD (p + j) 0 ||| f1.tick.mask)))
          have hor := u8_or ((Fl.lay f1.tick.bs p (List.replicate j 255)).getD (p + j) 0) f1.tick.mask
          unfold encB at HF5 HK5
          rw [← hor] at HF5 HK5
          clear hor c0 c1 c2 c3 c4 c5 c6 c7
          go_upto_region 18 with fail
          go_still_tail 11, (by kernel_rfl)
          go_wp2_with fail
          go_ret
          refine ⟨by rw [HR.out.1]; rfl, ?_, HK5.out⟩
          rw [HR.out.2.1 hjz]; exact HF5.out
        · go_wp2_with fail
          go_ret
          refine ⟨by rw [HR.out.1]; rfl, ?_, HK4.out⟩
          rw [HR.out.2.2 hjz]; exact HF4.out
theorem Erase_any (w : World) (g gb gc cb cc : Nat) (f : Fl) (hf : FlA w g gb gc cb cc f) (s : Int) (hs : IntR s) :
    Calls Try.prog 17 #[.pointer (some ⟨g, 0, none⟩), .int .i64 s] w (Turned 71 w g gb gc cb cc (f.erase s) (.returned (.int .i64 (f.eraseE s)))) := by
  cases h : f.erases s with
  | false => exact Erase_no w g gb gc cb cc f hf s hs h
  | true =>
    have h0 : 0 ≤ s := by
      unfold Fl.erases at h
      simp only [Bool.and_eq_true, decide_eq_true_eq, Bool.not_eq_true'] at h
      exact h.1.2.1
    obtain ⟨n, rfl⟩ : ∃ n : Nat, s = (n : Int) := ⟨s.toNat, by omega⟩
    exact Erase_yes w g gb gc cb cc f hf n h
end Go.Proofs.Ytdnnodpchjnleaa
