/- klass: may a class be? No condition. -/
import Derived.Test.YtnfhiakdbakpgaaQ10KlassCuts
import Derived.Test.YtnfhiakdbakpgaaQ03KlassCuts
import Derived.StillTail
namespace Go.Proofs.Ytnfhiakdbakpgaa
open Go.ChangeShapes Go.WideShapes Go.ChangeAt Go.RowKit
/-- Sizes that hold of each class that there is. -/
structure KP.Fit (p : KP) : Prop where
  ln : p.ln ≤ 1000000000
  sn : p.sn ≤ 1000000000
structure KM.Fit (m : KM) : Prop where
  fl : IntR m.fl
  cn : m.cn ≤ maxLen
  tn : m.tn ≤ 1000000000000
  mn : m.mn ≤ 1000000000000
  each : ∀ p ∈ m.maps, p.Fit
structure KF.Fit (f : KF) : Prop where
  pn : f.pn ≤ 65536
  ps : ∀ i : Nat, i < f.pn → (kAt f.pool i).s.length ≤ 65536
  fn : f.fn ≤ 1000000000000
  mn : f.mn ≤ 1000000000000
  fl : ∀ d ∈ f.fields, IntR d.fl
  each : ∀ m ∈ f.methods, m.Fit
def KCheckRet (f : KF) (w : World) (e : Ending) (w' : World) : Prop := e = .returned (.int .i64 (if classOk f then 0 else 8)) ∧ Below w.heap.size w w'
theorem class_chain (f : KF) (hp : poolOk f.pool = true) : (!classOk f) = (((((false || !clsOk f.pool f.th) || !(decide (f.su = 0) || clsOk f.pool f.su)) || !decide (f.fields.length ≤ 64 ∧ f.methods.length ≤ 64)) || !f.fields.all (fun d => membOk f.pool d.fl d.nm d.ds)) || !f.methods.all (methOk f.pool)) := by
  have h : (!classOk f) = (false || !classOk f) := by simp
  rw [h]
  unfold classOk
  rw [hp, odd_next, odd_next, odd_next, odd_next, odd_next]
  simp
set_option maxRecDepth 100000 in
set_option maxHeartbeats 16000000 in
theorem KCheck_any (w : World) (f : KF) (h : f.Rd w) (hfit : f.Fit) :
    Calls Try.prog 11 #[.agg #[.slice f.pa f.pn f.pc, .int .i64 f.th, .int .i64 f.su, .slice f.fa f.fn f.fc, .slice f.ma f.mn f.mc]] w (KCheckRet f w) := by
  unfold KCheckRet
  have HCH := Lib.hid (class_chain f)
  have HCN := Lib.hid (show poolOk f.pool = false → classOk f = false from fun h => by unfold classOk; rw [h]; rfl)
  obtain ⟨pa, pn, pc, pool, th, su, fa, fn, fc, fields, ma, mn, mc, methods⟩ := f
  dsimp only at HCH HCN ⊢
  have HPK := Lib.hid (show Ks w pa pn pool from h.pool)
  have hpn : pn ≤ 65536 := hfit.pn
  have hfn : fn ≤ 1000000000000 := hfit.fn
  have hmn : mn ≤ 1000000000000 := hfit.mn
  have HPS := Lib.hid (show ∀ i : Nat, i < pn → (kAt pool i).s.length ≤ 65536 from hfit.ps)
  have HFD := Lib.hid (show Ss 3 KD.cells w fa fn fields from h.fields)
  have HMD := Lib.hid (show Ss 8 KM.cells w ma mn methods from h.methods)
  have HE := Lib.hid (show ∀ m ∈ methods, m.Rd w from h.each)
  have HFL := Lib.hid (show ∀ d ∈ fields, IntR d.fl from hfit.fl)
  have HFM := Lib.hid (show ∀ m ∈ methods, m.Fit from hfit.each)
  have HFn := Lib.hid (show fields.length = fn from h.fields.1)
  have HMn := Lib.hid (show methods.length = mn from h.methods.1)
  have HSZ := Lib.hid (show decide (fields.length ≤ 64 ∧ methods.length ≤ 64) = (decide ((fn : Int) ≤ 64) && decide ((mn : Int) ≤ 64)) from by
    rw [HFn.out, HMn.out, ← Bool.decide_and]; exact decide_eq_decide.2 (by omega))
  generalize decide (fields.length ≤ 64 ∧ methods.length ≤ 64) = szB at *
  generalize classOk ⟨pa, pn, pc, pool, th, su, fa, fn, fc, fields, ma, mn, mc, methods⟩ = R at *
  clear h hfit
  obtain ⟨r, hr⟩ : ∃ r : Int, r = if R then 0 else 8 := ⟨_, rfl⟩
  rw [← hr]
  have HRV := Lib.hid hr
  clear hr
  have hal : Below w.heap.size w (w.alloc (.cells #[.slice pa pn pc, .int .i64 th, .int .i64 su, .slice fa fn fc, .slice ma mn mc] 26)) := below_1 _ _
  have HB0 := Lib.hid (heap_alloc_last w (.cells #[.slice pa pn pc, .int .i64 th, .int .i64 su, .slice fa fn fc, .slice ma mn mc] 26))
  have HCP := Lib.hid (Check_any (w.alloc (.cells #[.slice pa pn pc, .int .i64 th, .int .i64 su, .slice fa fn fc, .slice ma mn mc] 26)) pa pn pc pool (HPK.out.below hal) hpn HPS.out)
  unfold CheckRet at HCP
  have HK0 := Lib.hid hal
  clear hal
  go_enter Try.func11, Try.ntmps11
  go_upto_region 1 with fail
  generalize w.alloc (.cells #[.slice pa pn pc, .int .i64 th, .int .i64 su, .slice fa fn fc, .slice ma mn mc] 26) = W0 at *
  have c0 := row_cell HB0.out 0 rfl
  dsimp at c0
  cases hp : poolOk pool
  · have HN := Lib.hid (HCN.out hp)
    rw [hp] at HCP
    simp only [Bool.false_eq_true, if_false] at HCP
    clear HCH hp
    go_wp2_with fail
    refine HCP.out.mono ?_
    rintro e w1 ⟨rfl, hb1⟩
    have HB1 := Lib.hid (HK0.out.trans (hb1.mono HK0.out.size))
    clear hb1
    go_wp2_with fail
    go_ret
    exact ⟨by rw [HRV.out, HN.out]; rfl, HB1.out⟩
  have HCH := Lib.hid (HCH.out hp)
  rw [hp] at HCP
  simp only [if_true] at HCP
  clear HCN hp
  go_wp2_with fail
  refine HCP.out.mono ?_
  rintro e w1 ⟨rfl, hb1⟩
  have HB1 := Lib.hid (row_below HB0.out hb1)
  have HK1 := Lib.hid (HK0.out.trans (hb1.mono HK0.out.size))
  clear hb1 HCP HB0 HK0 c0
  have c0 := row_cell HB1.out 0 rfl
  have c1 := row_cell HB1.out 1 rfl
  dsimp at c0 c1
  go_upto_region 4 with fail
  have hal : Below w1.heap.size w1 (w1.alloc (.cells #[.slice pa pn pc, .bool false] 71)) := below_1 _ _
  have HL := Lib.hid (show LkS (w1.alloc (.cells #[.slice pa pn pc, .bool false] 71)) w1.heap.size pa pn pc pool false from
    ⟨heap_alloc_last w1 _, (HPK.out.below (by exact HK1.out)).below hal, hpn, Off1.oldS (HPK.out.below (by exact HK1.out)) (Nat.le_refl _)⟩)
  have HB := Lib.hid (row_below HB1.out hal)
  have hbg : w.heap.size ≠ w1.heap.size := Nat.ne_of_lt (row_lt HB1.out)
  have HWg := Lib.hid (show w.heap.size ≤ w1.heap.size by exact HK1.out.size)
  have HW2 := Lib.hid (show Below w.heap.size w (w1.alloc (.cells #[.slice pa pn pc, .bool false] 71)) by exact HK1.out.trans (hal.mono HK1.out.size))
  clear hal c0 c1 HB1 HK1
  generalize w1.alloc (.cells #[.slice pa pn pc, .bool false] 71) = W2 at *
  generalize w1.heap.size = g at *
  have HK := Lib.hid (Keep1.refl g W2)
  have c1 := row_cell HB.out 1 rfl
  dsimp at c1
  go_wp2_with fail
  refine (lclass_any W2 g pa pn pc pool false th HL.out).mono ?_
  rintro e w3 ⟨rfl, h3, k3⟩
  have HL3 := Lib.hid h3
  have HB3 := Lib.hid (k3.blk HB.out hbg)
  have HK3 := Lib.hid (HK.out.trans k3)
  generalize (false || !clsOk pool th) = od1 at *
  clear h3 k3 c1 HL HB HK
  have c2 := row_cell HB3.out 2 rfl
  dsimp at c2
  go_upto_if 22 with fail
  go_cut [] (fun wx => Hid (LkS wx g pa pn pc pool (od1 || !(decide (su = 0) || clsOk pool su))) ∧ Hid (wx.heap[w.heap.size]? = some (.cells #[.slice pa pn pc, .int .i64 th, .int .i64 su, .slice fa fn fc, .slice ma mn mc] 26)) ∧ Hid (Keep1 g W2 wx))
  case first =>
    by_cases h0 : su = 0
    · have e0 : (su != 0) = false := by simp [h0]
      have HS := Lib.hid (show (decide (su = 0) || clsOk pool su) = true by simp [h0])
      clear h0
      go_wp2_with fail
      go_meet
      exact ⟨Lib.hid (by rw [HS.out, Bool.not_true, Bool.or_false]; exact HL3.out), HB3, HK3⟩
    · have e0 : (su != 0) = true := by simp [h0]
      have HS := Lib.hid (show (decide (su = 0) || clsOk pool su) = clsOk pool su by simp [h0])
      clear h0
      go_wp2_with fail
      refine (lclass_any w3 g pa pn pc pool _ su HL3.out).mono ?_
      rintro e w4 ⟨rfl, h4, k4⟩
      go_wp2_with fail
      go_meet
      exact ⟨Lib.hid (by rw [HS.out]; exact h4), Lib.hid (k4.blk HB3.out hbg), Lib.hid (HK3.out.trans k4)⟩
  case rest =>
    clear c2 HL3 HB3 HK3
    obtain ⟨HL, HB, HK⟩ := hcut
    generalize (od1 || !(decide (su = 0) || clsOk pool su)) = od2 at *
    have c3 := row_cell HB.out 3 rfl
    have c4 := row_cell HB.out 4 rfl
    dsimp at c3 c4
    go_upto_region 7 with fail
    go_cut [38] (fun r wx => Hid (LkS wx g pa pn pc pool (od2 || !szB)) ∧ Hid (wx.heap[w.heap.size]? = some (.cells #[.slice pa pn pc, .int .i64 th, .int .i64 su, .slice fa fn fc, .slice ma mn mc] 26)) ∧ Hid (Keep1 g W2 wx))
    case first =>
      by_cases h0 : (fn : Int) ≤ 64
      · have e0 := decide_eq_true h0
        by_cases h1 : (mn : Int) ≤ 64
        · have e1 := decide_eq_true h1
          clear h0 h1
          go_wp2_with fail
          refine (need_any _ g pa pn pc pool _ true HL.out).mono ?_
          rintro e w3 ⟨rfl, h3, k3⟩
          go_wp2_with fail
          go_meet
          refine ⟨Lib.hid ?_, Lib.hid (k3.blk HB.out hbg), Lib.hid (HK.out.trans k3)⟩
          rw [show szB = true by rw [HSZ.out]; simp only [e0, e1, Bool.and_true, Bool.true_and, Bool.false_and, Bool.and_false]]; exact h3
        · have e1 := decide_eq_false h1
          clear h0 h1
          go_wp2_with fail
          refine (need_any _ g pa pn pc pool _ false HL.out).mono ?_
          rintro e w3 ⟨rfl, h3, k3⟩
          go_wp2_with fail
          go_meet
          refine ⟨Lib.hid ?_, Lib.hid (k3.blk HB.out hbg), Lib.hid (HK.out.trans k3)⟩
          rw [show szB = false by rw [HSZ.out]; simp only [e0, e1, Bool.and_true, Bool.true_and, Bool.false_and, Bool.and_false]]; exact h3
      · have e0 := decide_eq_false h0
        clear h0
        go_wp2_with fail
        refine (need_any _ g pa pn pc pool _ false HL.out).mono ?_
        rintro e w3 ⟨rfl, h3, k3⟩
        go_wp2_with fail
        go_meet
        refine ⟨Lib.hid ?_, Lib.hid (k3.blk HB.out hbg), Lib.hid (HK.out.trans k3)⟩
        rw [show szB = false by rw [HSZ.out]; simp only [e0, Bool.and_true, Bool.true_and, Bool.false_and, Bool.and_false]]; exact h3
    case rest =>
      clear c3 c4 HL HB HK
      obtain ⟨HL, HB, HK⟩ := hcut
      generalize (od2 || !szB) = od3 at *
      have c3 := row_cell HB.out 3 rfl
      dsimp at c3
      go_wp2_with fail
      clear c3
      go_loopg [42] fn (fun gn iv wr => ∃ j : Nat, j ≤ fn ∧ gn = fn - j ∧ iv = .int .i64 j ∧ Hid (LkS wr g pa pn pc pool (od3 || !(fields.take j).all (fun d => membOk pool d.fl d.nm d.ds))) ∧ Hid (wr.heap[w.heap.size]? = some (.cells #[.slice pa pn pc, .int .i64 th, .int .i64 su, .slice fa fn fc, .slice ma mn mc] 26)) ∧ Hid (Keep1 g W2 wr))
      case atStart => exact ⟨0, by omega, by omega, by go_num, Lib.hid (by simpa using HL.out), HB, HK⟩
      case round =>
        clear HL HB HK
        obtain ⟨j, hj, rfl, rfl, HL, HB, HK⟩ := hrel
        by_cases hlt : j < fn
        · obtain ⟨b, off, d, rfl, _, hv, q⟩ := (HFD.out.below (HK.out.below HW2.out (Nat.le_refl _) HWg.out)).getC j hlt
          have HA := Lib.hid (show (od3 || !(fields.take (j + 1)).all (fun d => membOk pool d.fl d.nm d.ds)) = ((od3 || !(fields.take j).all (fun d => membOk pool d.fl d.nm d.ds)) || !membOk pool d.fl d.nm d.ds) by rw [all_take _ _ _ _ hv, odd_next])
          have HFI := Lib.hid (HFL.out d (List.mem_of_getElem? hv))
          obtain ⟨fl, nm, ds⟩ := d
          dsimp only at HA HFI
          have q0 : wr.cell? ⟨b, off + j * 3, none⟩ = some (.int .i64 fl) := q 0 (by omega)
          have q1 : wr.cell? ⟨b, off + j * 3 + 1, none⟩ = some (.int .i64 nm) := q 1 (by omega)
          have q2 : wr.cell? ⟨b, off + j * 3 + 2, none⟩ = some (.int .i64 ds) := q 2 (by omega)
          clear q hv
          generalize (od3 || !(fields.take j).all (fun d => membOk pool d.fl d.nm d.ds)) = od at *
          have hj1 : (j : Int) < fn := by omega
          have hb : Below wr.heap.size wr (wr.alloc (.cells #[.int .i64 fl, .int .i64 nm, .int .i64 ds] 59)) := below_1 _ _
          have HL4 := Lib.hid (HL.out.below hb)
          have HB4 := Lib.hid (row_below HB.out hb)
          have HK4 := Lib.hid (HK.out.trans (Keep1.of hb))
          have HT4 := Lib.hid (heap_alloc_last wr (.cells #[.int .i64 fl, .int .i64 nm, .int .i64 ds] 59))
          clear hb HL HB HK
          go_upto_region 11 with fail
          clear q0 q1 q2
          generalize wr.alloc (.cells #[.int .i64 fl, .int .i64 nm, .int .i64 ds] 59) = W4 at *
          generalize wr.heap.size = bt at *
          have p0 := row_cell HT4.out 0 rfl
          have p1 := row_cell HT4.out 1 rfl
          have p2 := row_cell HT4.out 2 rfl
          dsimp at p0 p1 p2
          go_wp2_with fail
          refine (lmember_any W4 g pa pn pc pool _ fl nm ds HL4.out HFI.out).mono ?_
          rintro e w6 ⟨rfl, h6, k6⟩
          go_wp2_with fail
          go_roundg (fn - (j + 1))
          case measure => omega
          case rel => exact ⟨j + 1, by omega, rfl, by go_num, Lib.hid (by rw [HA.out]; exact h6), Lib.hid (k6.blk HB4.out hbg), Lib.hid (HK4.out.trans k6)⟩
        · obtain rfl : j = fn := by omega
          have HEX := Lib.hid (show fields.take j = fields by rw [List.take_of_length_le (by rw [HFn.out]; exact Nat.le_refl _)])
          rw [HEX.out] at HL
          generalize (od3 || !fields.all (fun d => membOk pool d.fl d.nm d.ds)) = od4 at *
          have c4 := row_cell HB.out 4 rfl
          dsimp at c4
          go_wp2_with fail
          clear c4
          go_loopg [58] mn (fun gn iv wr => ∃ i : Nat, i ≤ mn ∧ gn = mn - i ∧ iv = .int .i64 i ∧ Hid (LkS wr g pa pn pc pool (od4 || !(methods.take i).all (methOk pool))) ∧ Hid (Keep1 g W2 wr))
          case atStart => exact ⟨0, by omega, by omega, by go_num, Lib.hid (by simpa using HL.out), HK⟩
          case round =>
            clear HL HB HK
            obtain ⟨i, hi, rfl, rfl, HL, HK⟩ := hrel
            by_cases hli : i < mn
            · have HWR := Lib.hid (HK.out.below HW2.out (Nat.le_refl _) HWg.out)
              obtain ⟨b, off, m, rfl, _, hv, q⟩ := (HMD.out.below HWR.out).getC i hli
              have HA := Lib.hid (show (od4 || !(methods.take (i + 1)).all (methOk pool)) = ((od4 || !(methods.take i).all (methOk pool)) || !methOk pool m) by rw [all_take _ _ _ _ hv, odd_next])
              have hR := HE.out m (List.mem_of_getElem? hv)
              have hF := HFM.out m (List.mem_of_getElem? hv)
              have HCM := Lib.hid (fun (W : World) od (h1 : LkS W g pa pn pc pool od) (h2 : Below w.heap.size w W) => lmethod_any w W g pa pn pc pool od m h1 hR h2 HWg.out hF.fl hF.cn hF.tn hF.mn (fun p hp => ⟨(hF.each p hp).ln, (hF.each p hp).sn⟩))
              clear hR hF
              obtain ⟨fl, nm, ds, st, lo, ca, cn, cc, code, ta, tn, tc, traps, na, nn, nc, maps⟩ := m
              dsimp only at HCM
              generalize methOk pool ⟨fl, nm, ds, st, lo, ca, cn, cc, code, ta, tn, tc, traps, na, nn, nc, maps⟩ = ok at *
              have q0 : wr.cell? ⟨b, off + i * 8, none⟩ = some (.int .i64 fl) := q 0 (by omega)
              have q1 : wr.cell? ⟨b, off + i * 8 + 1, none⟩ = some (.int .i64 nm) := q 1 (by omega)
              have q2 : wr.cell? ⟨b, off + i * 8 + 2, none⟩ = some (.int .i64 ds) := q 2 (by omega)
              have q3 : wr.cell? ⟨b, off + i * 8 + 3, none⟩ = some (.int .i64 st) := q 3 (by omega)
              have q4 : wr.cell? ⟨b, off + i * 8 + 4, none⟩ = some (.int .i64 lo) := q 4 (by omega)
              have q5 : wr.cell? ⟨b, off + i * 8 + 5, none⟩ = some (.slice ca cn cc) := q 5 (by omega)
              have q6 : wr.cell? ⟨b, off + i * 8 + 6, none⟩ = some (.slice ta tn tc) := q 6 (by omega)
              have q7 : wr.cell? ⟨b, off + i * 8 + 7, none⟩ = some (.slice na nn nc) := q 7 (by omega)
              clear q hv
              generalize (od4 || !(methods.take i).all (methOk pool)) = od at *
              have hi1 : (i : Int) < mn := by omega
              have hb : Below wr.heap.size wr (wr.alloc (.cells #[.int .i64 fl, .int .i64 nm, .int .i64 ds, .int .i64 st, .int .i64 lo, .slice ca cn cc, .slice ta tn tc, .slice na nn nc] 48)) := below_1 _ _
              have HL4 := Lib.hid (HL.out.below hb)
              have HK4 := Lib.hid (HK.out.trans (Keep1.of hb))
              have HT4 := Lib.hid (heap_alloc_last wr (.cells #[.int .i64 fl, .int .i64 nm, .int .i64 ds, .int .i64 st, .int .i64 lo, .slice ca cn cc, .slice ta tn tc, .slice na nn nc] 48))
              have HW4 := Lib.hid (HWR.out.trans (hb.mono HWR.out.size))
              clear hb HL HK HWR
              go_upto_region 16 with fail
              clear q0 q1 q2 q3 q4 q5 q6 q7
              generalize wr.alloc (.cells #[.int .i64 fl, .int .i64 nm, .int .i64 ds, .int .i64 st, .int .i64 lo, .slice ca cn cc, .slice ta tn tc, .slice na nn nc] 48) = W4 at *
              generalize wr.heap.size = bt at *
              have p0 := row_cell HT4.out 0 rfl
              have p1 := row_cell HT4.out 1 rfl
              have p2 := row_cell HT4.out 2 rfl
              have p3 := row_cell HT4.out 3 rfl
              have p4 := row_cell HT4.out 4 rfl
              have p5 := row_cell HT4.out 5 rfl
              have p6 := row_cell HT4.out 6 rfl
              have p7 := row_cell HT4.out 7 rfl
              dsimp at p0 p1 p2 p3 p4 p5 p6 p7
              go_wp2_with fail
              refine (HCM.out W4 _ HL4.out HW4.out).mono ?_
              rintro e w6 ⟨rfl, h6, k6⟩
              go_wp2_with fail
              go_roundg (mn - (i + 1))
              case measure => omega
              case rel => exact ⟨i + 1, by omega, rfl, by go_num, Lib.hid (by rw [HA.out]; exact h6), Lib.hid (HK4.out.trans k6)⟩
            · obtain rfl : i = mn := by omega
              have HEY := Lib.hid (show methods.take i = methods by rw [List.take_of_length_le (by rw [HMn.out]; exact Nat.le_refl _)])
              rw [HEY.out] at HL
              generalize (od4 || !methods.all (methOk pool)) = od5 at *
              have HBZ := Lib.hid (HK.out.below HW2.out (Nat.le_refl _) HWg.out)
              obtain ⟨k0, k1, fr0, fr1, lt0⟩ := HL.out.k.box
              cases od5
              · have HRZ := Lib.hid (show r = 0 by have h1 := HCH.out; rw [HRV.out]; cases R <;> simp at h1 ⊢)
                go_wp2_with fail
                go_ret
                exact ⟨by rw [HRZ.out]; rfl, HBZ.out⟩
              · have HRZ := Lib.hid (show r = 8 by have h1 := HCH.out; rw [HRV.out]; cases R <;> simp at h1 ⊢)
                go_wp2_with fail
                go_ret
                exact ⟨by rw [HRZ.out]; rfl, HBZ.out⟩
end Go.Proofs.Ytnfhiakdbakpgaa
/- klass: the writer's numbers. No condition. -/
namespace Go.Proofs.Ytnfhiakdbakpgaa
open Go.ChangeShapes Go.WideShapes Go.ChangeAt Go.RowKit
/-- Numbers of two bytes. -/
def z2 (l : List Int) : List UInt8 := l.flatMap fun v => putB (u64N v) 2
/-- A number of four bytes. -/
def z4 (v : Int) : List UInt8 := putB (u64N v) 4
theorem z2_len (l : List Int) : (z2 l).length = l.length * 2 := by
  unfold z2
  induction l with
  | nil => simp
  | cons x l ih => rw [List.flatMap_cons, List.length_append, ih, putB_length, List.length_cons, Nat.add_mul]; omega
theorem z4_len (v : Int) : (z4 v).length = 4 := by unfold z4; rw [putB_length]
theorem flat_take {α : Type} (F : α → List UInt8) (l : List α) (j : Nat) (v : α) (h : l[j]? = some v) : (l.take (j + 1)).flatMap F = (l.take j).flatMap F ++ F v := by
  obtain ⟨hj, he⟩ := List.getElem?_eq_some_iff.1 h
  rw [List.take_succ_eq_append_getElem hj, List.flatMap_append, he]
  simp
theorem flat_le {α : Type} (F : α → List UInt8) (l : List α) (j : Nat) : ((l.take j).flatMap F).length ≤ (l.flatMap F).length := by
  have h : l.flatMap F = (l.take j).flatMap F ++ (l.drop j).flatMap F := by rw [← List.flatMap_append, List.take_append_drop]
  rw [h, List.length_append]
  omega
/-- A writer in block g, its row made behind B. -/
def WrB (B : Nat) (w : World) (g : Nat) (bs : List UInt8) : Prop :=
  ∃ a n cap, w.heap[g]? = some (.cells #[.slice a n cap] 54) ∧ Sl encB w a n bs ∧ n ≤ cap ∧ g + 1 ≤ B ∧ w.ownsRow B 5 1 (.slice a n cap) n (bs.map encB)
theorem WrB.below {B : Nat} {w w' : World} {g : Nat} {bs : List UInt8} (h : WrB B w g bs) (hb : Below w.heap.size w w') : WrB B w' g bs := by
  obtain ⟨a, n, cap, h1, h2, h3, h4, h5⟩ := h
  exact ⟨a, n, cap, row_below h1 hb, h2.below hb, h3, h4, own_below h5 hb⟩
theorem WrB.lt {B : Nat} {w : World} {g : Nat} {bs : List UInt8} (h : WrB B w g bs) : g < w.heap.size := by
  obtain ⟨a, n, cap, h1, _⟩ := h
  exact row_lt h1
theorem WrB.mono {B B' : Nat} {w : World} {g : Nat} {bs : List UInt8} (h : WrB B w g bs) (hB : B' ≤ B) (hg : g + 1 ≤ B') : WrB B' w g bs := by
  obtain ⟨a, n, cap, h1, h2, h3, h4, h5⟩ := h
  exact ⟨a, n, cap, h1, h2, h3, hg, own_mono h5 hB⟩
theorem WrB.new (w : World) : WrB (w.heap.size + 1) (w.alloc (.cells #[.slice none 0 0] 54)) w.heap.size [] :=
  ⟨none, 0, 0, heap_alloc_last w _, Sl.nil _ _, Nat.le_refl _, Nat.le_refl _, World.ownsRow_nil _ _ _ _⟩
/-- What a writing leaves. -/
def WRet (g : Nat) (bs : List UInt8) (w : World) (e : Ending) (w' : World) : Prop := e = .returned (.tuple #[]) ∧ WrB w.heap.size w' g bs ∧ Keep1 g w w'
theorem WrB.set {w w' : World} {g : Nat} {bs : List UInt8} {x : Value} {B : Nat} {v : Value} {n : Nat} (hg : w.heap[g]? = some (.cells #[x] 54)) (ho : w.ownsRow B 5 1 v n (bs.map encB)) (hB : g + 1 ≤ B) (he : w' = w.setCell ⟨g, 0, none⟩ v) : WrB B w' g bs := by
  subst he
  have k := (Keep1.refl g w).set 0 v
  obtain ⟨a, cap, rfl, hs, hc⟩ := Sl.ofOwn ho
  refine ⟨a, n, cap, by simpa using heap_set3 hg 0 (.slice a n cap), hs.keep1 k (Off1.own ho (by omega)), hc, hB, ?_⟩
  exact own_keep1 ho k (by omega)
set_option maxRecDepth 100000 in
set_option maxHeartbeats 8000000 in
theorem u2_any (w : World) (g : Nat) (bs : List UInt8) {B : Nat} (h : WrB B w g bs) (a : Option Addr) (n cap : Nat) (l : List Int) (hs : Sl encZ w a n l) (ho : Off1 a n g) (hn0 : 0 < n) (hlen : bs.length + n * 2 ≤ 1048576) :
    Calls Try.prog 17 #[.pointer (some ⟨g, 0, none⟩), .slice a n cap] w (WRet g (bs ++ z2 l) w) := by
  have HS := Lib.hid hs
  have HLn := Lib.hid hs.1
  have HO := Lib.hid ho
  have HW0 := Lib.hid h
  have HG0 := Lib.hid (show g + 1 ≤ B by obtain ⟨_, _, _, _, _, _, h4, _⟩ := h; exact h4)
  have hn : n ≤ 1048576 := by omega
  have HGW := Lib.hid (show g + 1 ≤ w.heap.size from h.lt)
  clear hs ho h
  go_enter Try.func17, Try.ntmps17
  go_wp2_with fail
  go_loopg [8] n (fun gn i wr => ∃ j : Nat, j ≤ n ∧ gn = n - j ∧ i = .int .i64 j ∧ Hid (WrB (if j = 0 then g + 1 else w.heap.size) wr g (bs ++ z2 (l.take j))) ∧ Hid (Keep1 g w wr))
  case atStart => exact ⟨0, by omega, by omega, by go_num, Lib.hid (by simpa [z2] using HW0.out.mono HG0.out (Nat.le_refl _)), Lib.hid (Keep1.refl _ _)⟩
  case round =>
    obtain ⟨j, hj, rfl, rfl, HW, HK⟩ := hrel
    by_cases hlt : j < n
    · obtain ⟨b, off, v, rfl, hbl, hv, q⟩ := (HS.out.keep1 HK.out HO.out).getZ j hlt
      have HPT := Lib.hid (show bs ++ z2 (l.take (j + 1)) = bs ++ z2 (l.take j) ++ putB (u64N v) 2 by unfold z2; rw [flat_take _ _ _ _ hv, List.append_assoc])
      have hlen2 : (bs ++ z2 (l.take j)).length ≤ 1048576 := by
        rw [List.length_append, z2_len, List.length_take]
        omega
      have hux := u64N_wrap v
      have HLX := Lib.hid (u64N_lt v)
      obtain ⟨a2, n2, c2, hk2, hs2, hc2, -, -⟩ := HW.out
      have HK2 := Lib.hid hk2
      have HS2 := Lib.hid hs2
      rw [hs2.1] at hlen2
      clear hk2 hs2 hv HW
      generalize bs ++ z2 (l.take j) = e at *
      generalize u64N v = uv at *
      have c0 : wr.cell? ⟨g, 0, none⟩ = some (.slice a2 n2 c2) := row_cell HK2.out 0 rfl
      have hj1 : (j : Int) < n := by omega
      go_wp2_with fail
      refine (Put_any wr a2 n2 c2 e uv 2 HS2.out (by omega) hc2 HLX.out (by decide) (by decide)).mono ?_
      rintro e' W4 ⟨v4, m4, rfl, ho4, hb4⟩
      obtain ⟨a4, c4, rfl, -, -⟩ := Sl.ofOwn ho4
      have HO4 := Lib.hid ho4
      have HG4 := Lib.hid (row_below HK2.out hb4)
      have HKK4 := Lib.hid (HK.out.trans (Keep1.of hb4))
      have HGB := Lib.hid (show g + 1 ≤ wr.heap.size from row_lt HK2.out)
      have HSZ := Lib.hid (show w.heap.size ≤ wr.heap.size from HK.out.size)
      clear HK2 HK HS2 ho4 hb4 c0
      have f0 := row_melt HG4.out 0
      have lt0 := row_lt HG4.out
      have c0 : W4.cell? ⟨g, 0, none⟩ = some (.slice a2 n2 c2) := row_cell HG4.out 0 rfl
      go_wp2_with fail
      go_roundg (n - (j + 1))
      case measure => omega
      case rel => exact ⟨j + 1, by omega, rfl, by go_num, Lib.hid (by rw [HPT.out, if_neg (by omega)]; exact (WrB.set HG4.out HO4.out HGB.out rfl).mono HSZ.out HGW.out), Lib.hid (HKK4.out.set 0 _)⟩
    · obtain rfl : j = n := by omega
      have HLE := Lib.hid (show l.take j = l by rw [List.take_of_length_le (by rw [HLn.out]; exact Nat.le_refl _)])
      rw [HLE.out, if_neg (by omega)] at HW
      go_wp2_with fail
      go_end0
      exact ⟨rfl, HW.out, HK.out⟩
theorem u2_lit (w : World) (g : Nat) (bs : List UInt8) {B : Nat} (h : WrB B w g bs) (n : Nat) (l : List Int) (hn : n = l.length) (hn0 : 0 < n) (hlen : bs.length + n * 2 ≤ 1048576) :
    Calls Try.prog 17 #[.pointer (some ⟨g, 0, none⟩), .slice (some ⟨w.heap.size, 0, none⟩) n n] (w.alloc (.cells (l.map encZ).toArray 3)) (WRet g (bs ++ z2 l) w) :=
  (u2_any _ g bs (h.below (below_1 _ _)) _ n n l (Sl.litZ w n l 3 hn) (Off1.new (Nat.ne_of_lt h.lt)) hn0 hlen).mono fun _ _ q => ⟨q.1, q.2.1.mono (by simp) h.lt, (Keep1.of (below_1 _ _)).trans q.2.2⟩
set_option maxRecDepth 100000 in
set_option maxHeartbeats 8000000 in
theorem u4_any (w : World) (g : Nat) (bs : List UInt8) {B : Nat} (h : WrB B w g bs) (v : Int) (hlen : bs.length ≤ 1048576) :
    Calls Try.prog 16 #[.pointer (some ⟨g, 0, none⟩), .int .i64 v] w (WRet g (bs ++ z4 v) w) := by
  have hux := u64N_wrap v
  have HLX := Lib.hid (u64N_lt v)
  unfold z4
  obtain ⟨a2, n2, c2, hk2, hs2, hc2, -, -⟩ := h
  have HK2 := Lib.hid hk2
  have HS2 := Lib.hid hs2
  rw [hs2.1] at hlen
  clear hk2 hs2
  generalize u64N v = uv at *
  have c0 : w.cell? ⟨g, 0, none⟩ = some (.slice a2 n2 c2) := row_cell HK2.out 0 rfl
  go_enter Try.func16, Try.ntmps16
  go_wp2_with fail
  refine (Put_any w a2 n2 c2 bs uv 4 HS2.out (by omega) hc2 HLX.out (by decide) (by decide)).mono ?_
  rintro e' W4 ⟨v4, m4, rfl, ho4, hb4⟩
  obtain ⟨a4, c4, rfl, -, -⟩ := Sl.ofOwn ho4
  have HO4 := Lib.hid ho4
  have HG4 := Lib.hid (row_below HK2.out hb4)
  have HKK4 := Lib.hid (Keep1.of (g := g) hb4)
  have HGB := Lib.hid (show g + 1 ≤ w.heap.size from row_lt HK2.out)
  clear HK2 HS2 ho4 hb4 c0
  have f0 := row_melt HG4.out 0
  have lt0 := row_lt HG4.out
  have c0 : W4.cell? ⟨g, 0, none⟩ = some (.slice a2 n2 c2) := row_cell HG4.out 0 rfl
  go_wp2_with fail
  go_end0
  exact ⟨rfl, WrB.set HG4.out HO4.out HGB.out rfl, HKK4.out.set 0 _⟩
end Go.Proofs.Ytnfhiakdbakpgaa
/- A region that draws its order and ends in one operation that waits for all the others (a store into a cell that the region reads): walked once, in an order of the prover's choosing; behind the last nothing has to hold. Over any program. -/
namespace Go.Proofs.Ytnfhiakdbakpgaa
open Go.RowKit
section
variable {P : Program} {ops : Array Oper} {Q : Exit → Act → World → Prop} {md : Region.Mode} {S : World → Prop}
/-- Whatever order is picked; S holds behind each but the last. -/
def wpAnyE (P : Program) (md : Region.Mode) (ops : Array Oper) (Q : Exit → Act → World → Prop) (S : World → Prop) (n : Nat) : Nat → Array Bool → Act → World → Prop
  | 0, listed, a, w => Region.ready md ops listed = [] ∧ Q .normal a w
  | fuel + 1, listed, a, w => (Region.ready md ops listed = [] → Q .normal a w) ∧
    ∀ i ∈ Region.ready md ops listed, wpOp P ops Q i (fun a' w' => (i ≠ n → S w') ∧ wpAnyE P md ops Q S n fuel (listed.setIfInBounds i true) a' w') a w
theorem wpAny_of_E {n : Nat} : ∀ (fuel : Nat) (listed : Array Bool) (a : Act) (w : World), wpAnyE P md ops Q S n fuel listed a w → wpAny P md ops Q fuel listed a w
  | 0, _, _, _, h => h
  | fuel + 1, _, _, _, h => ⟨h.1, fun i hi => wpOp_mono (fun a' w' h' => wpAny_of_E fuel _ a' w' h'.2) (h.2 i hi)⟩
theorem wpAnyE_first {n i : Nat} {oi : Oper} {v : Value} (hsk : Region.sinkB md ops n = true) (hch : Region.chainB md ops n = true) (hn : ops.size = n + 1) (hin : i < n)
    (hi : ops[i]? = some oi) (hsel : ∀ (j : Nat) (o : Oper) cs b, ops[j]? = some o → o.op ≠ .select cs b)
    (hQ : ∀ c a w, Q (.panic c) (a.put oi.dst v) w → Q (.panic c) a w) :
    ∀ (fuel : Nat) (listed : Array Bool) (a : Act) (w : World), HeadInv md ops n listed →
      (∀ j oj, ops[j]? = some oj → j ≠ i → listed.getD j true = false → (∀ e ∈ oj.after, Region.binds md e = true → e.on ≠ i) → oi.apart ops oj = true) →
      i ∈ Region.ready md ops listed → YieldsIf P ops S oi v a → S w →
      wpAnyE P md ops Q S n fuel (listed.setIfInBounds i true) (a.put oi.dst v) w → wpAnyE P md ops Q S n (fuel + 1) listed a w := by
  intro fuel
  induction fuel with
  | zero =>
    intro listed a w _ _ hr hy hS H
    refine ⟨fun h => (by rw [h] at hr; cases hr), fun j hj => ?_⟩
    by_cases hji : j = i
    · subst hji; exact hy.wpOp hi hS ⟨fun _ => hS, H⟩
    · have := ready_mono hj hji
      rw [H.1] at this
      cases this
  | succ fuel ih =>
    intro listed a w inv hfree hr hy hS H
    refine ⟨fun h => (by rw [h] at hr; cases hr), fun j hj => ?_⟩
    by_cases hji : j = i
    · subst hji; exact hy.wpOp hi hS ⟨fun _ => hS, H⟩
    · have h1 := H.2 j (ready_mono hj hji)
      obtain ⟨hjun, oj, hoj, hall⟩ := mem_ready.1 hj
      have hnot : ∀ e ∈ oj.after, Region.binds md e = true → e.on ≠ i := fun e he hb heq => by
        have h1 := hall e he hb
        have h0 := (mem_ready.1 hr).1
        rw [heq, getD_both h0] at h1
        cases h1
      have hjs : j < ops.size := (Array.getElem?_eq_some_iff.1 hoj).1
      have hjn : j ≠ n := fun e => tail_waits hsk hch (by omega) inv (n - i) i rfl hin (mem_ready.1 hr).1 j (by omega) hj
      have h2 := wpOp_putIf hoj (hfree j oj hoj hji hjun hnot) (fun cs b => hsel i oi cs b hi) (fun cs b => hsel j oj cs b hoj) hQ hy h1
      have hfree' : ∀ k ok, ops[k]? = some ok → k ≠ i → (listed.setIfInBounds j true).getD k true = false →
          (∀ e ∈ ok.after, Region.binds md e = true → e.on ≠ i) → oi.apart ops ok = true := fun k ok hk hki hun hno => by
        refine hfree k ok hk hki ?_ hno
        by_cases hjk : j = k
        · subst hjk; exact hjun
        · rw [getD_set_ne true hjk] at hun; exact hun
      refine wpOp_mono (fun a' w' h3 => ⟨fun _ => h3.2.1 hjn, ih (listed.setIfInBounds j true) a' w' (inv.set hj (by omega)) hfree' (ready_mono hr (Ne.symm hji)) h3.1 (h3.2.1 hjn) ?_⟩) h2
      rw [Array.setIfInBounds_comm _ _ hji]
      exact h3.2.2
/-- The last operation. -/
def lastOp (P : Program) (ops : Array Oper) (Q : Exit → Act → World → Prop) (n : Nat) (a : Act) (w : World) : Prop :=
  match ops[n]? with
  | none => False
  | some o => if Region.wanted o (yielded ops a.tmps) = true then o.wp P a w (fun a' w' => Q .normal a' w') Q else Q .normal (a.put o.dst undef) w
def wpLexE (P : Program) (ops : Array Oper) (Q : Exit → Act → World → Prop) (S : World → Prop) (n : Nat) : List (Nat × Bool) → Act → World → Prop
  | [], a, w => lastOp P ops Q n a w
  | (i, b) :: l, a, w => lexOp P ops Q S i b (wpLexE P ops Q S n l) a w
def checkLexE (ops : Array Oper) (n : Nat) : Array Bool → List (Nat × Bool) → Bool
  | listed, [] => Region.ready .any ops listed == [n] && (Region.ready .any ops (listed.setIfInBounds n true)).isEmpty
  | listed, (i, b) :: l => decide (i < n) && (if b then Region.free .any ops listed i && (Region.ready .any ops listed).contains i else Region.ready .any ops listed == [i]) && checkLexE ops n (listed.setIfInBounds i true) l
theorem lexE_sound {n : Nat} (hs : Region.noSelect ops = true) (hQ : ∀ c a d v w, Q (.panic c) (a.put d v) w → Q (.panic c) a w) (hsk : Region.sinkB .any ops n = true) (hch : Region.chainB .any ops n = true) (hn : ops.size = n + 1) :
    ∀ (l : List (Nat × Bool)) (listed : Array Bool) (a : Act) (w : World), HeadInv .any ops n listed → checkLexE ops n listed l = true → wpLexE P ops Q S n l a w → wpAnyE P .any ops Q S n (l.length + 1) listed a w := by
  intro l
  induction l with
  | nil =>
    intro listed a w inv hc h
    simp only [checkLexE, Bool.and_eq_true, beq_iff_eq] at hc
    refine ⟨fun h0 => (by rw [hc.1] at h0; cases h0), fun j hj => ?_⟩
    rw [hc.1] at hj
    obtain rfl : j = n := by simpa using hj
    change lastOp P ops Q j a w at h
    unfold lastOp at h
    unfold wpOp
    cases ho : ops[j]? with
    | none => rw [ho] at h; exact h.elim
    | some o =>
      rw [ho] at h
      simp only at h ⊢
      by_cases hw : Region.wanted o (yielded ops a.tmps) = true
      · rw [if_pos hw] at h
        simp only [hw, if_true]
        exact .inl (Oper.wp_mono (fun a' w' h' => ⟨fun hne => absurd rfl hne, by simpa using hc.2, h'⟩) h)
      · rw [if_neg hw] at h
        simp only [hw]
        exact ⟨fun hne => absurd rfl hne, by simpa using hc.2, h⟩
  | cons p l ih =>
    obtain ⟨i, b⟩ := p
    intro listed a w inv hc h
    simp only [checkLexE, Bool.and_eq_true, decide_eq_true_eq] at hc
    obtain ⟨⟨hin, hc1⟩, hc2⟩ := hc
    change lexOp P ops Q S i b (wpLexE P ops Q S n l) a w at h
    unfold lexOp at h
    cases ho : ops[i]? with
    | none => rw [ho] at h; exact h.elim
    | some o =>
      rw [ho] at h
      simp only at h
      cases b with
      | true =>
        simp only [if_true, Bool.and_eq_true] at hc1
        obtain ⟨hf, hr⟩ := hc1
        have hr' : i ∈ Region.ready .any ops listed := by simpa using hr
        by_cases hw : Region.wanted o (yielded ops a.tmps) = true
        · rw [if_pos hw] at h
          obtain ⟨v, h1, h2, h3⟩ := h
          exact wpAnyE_first hsk hch hn hin ho (Region.noSelect_spec hs) (fun c a w => hQ c a _ _ w) _ listed a w inv (Region.free_spec ho hf) hr' (.inl ⟨hw, h1⟩) h2 (ih _ _ _ (inv.set hr' hin) hc2 h3)
        · rw [if_neg hw] at h
          exact wpAnyE_first hsk hch hn hin ho (Region.noSelect_spec hs) (fun c a w => hQ c a _ _ w) _ listed a w inv (Region.free_spec ho hf) hr' (.inr ⟨by simpa using hw, rfl⟩) h.1 (ih _ _ _ (inv.set hr' hin) hc2 h.2)
      | false =>
        simp only [Bool.false_eq_true, if_false, beq_iff_eq] at hc1
        refine ⟨fun h0 => (by rw [hc1] at h0; cases h0), fun j hj => ?_⟩
        have hj0 := hj
        rw [hc1] at hj
        obtain rfl : j = i := by simpa using hj
        unfold wpOp
        rw [ho]
        simp only
        by_cases hw : Region.wanted o (yielded ops a.tmps) = true
        · rw [if_pos hw] at h
          simp only [hw, if_true]
          exact .inl (Oper.wp_mono (fun a' w' h' => ⟨fun _ => h'.1, ih _ _ _ (inv.set hj0 hin) hc2 h'.2⟩) h)
        · rw [if_neg hw] at h
          simp only [hw]
          exact ⟨fun _ => h.1, ih _ _ _ (inv.set hj0 hin) hc2 h.2⟩
theorem wp_region_lexE {id : Nat} {a : Act} {w : World} (S : World → Prop) (n : Nat) (l : List (Nat × Bool)) (hm : P.follows .mixedOrders = true)
    (hc : (Region.noSelect ops && (ops.size == n + 1) && (l.length == n) && Region.sinkB .any ops n && Region.chainB .any ops n && checkLexE ops n (Array.replicate ops.size false) l) = true) (hQ : ∀ c a d v w, Q (.panic c) (a.put d v) w → Q (.panic c) a w)
    (h : wpLexE P ops Q S n l a w.drew) : (Code.region id ops true).wp P Q a w := by
  simp only [Bool.and_eq_true, beq_iff_eq] at hc
  obtain ⟨⟨⟨⟨⟨hs, hl⟩, hl2⟩, hsk⟩, hch⟩, hk⟩ := hc
  have inv0 : HeadInv .any ops n (Array.replicate ops.size false) :=
    ⟨by simp, fun j oj _ hl => (by rw [getD_replicate_false] at hl; cases hl), fun t _ ht => getD_in (by simpa using ht) (getD_replicate_false _ _)⟩
  have := lexE_sound (P := P) (Q := Q) (S := S) hs hQ hsk hch hl l _ a _ inv0 hk h
  rw [hl2, ← hl] at this
  exact wp_region_any hm (wpAny_of_E _ _ _ _ this)
theorem lexE_step {n i : Nat} {b : Bool} {l : List (Nat × Bool)} {a : Act} {w : World}
    (h : ∀ K : Act → World → Prop, (∀ a w, wpLexE P ops Q S n l a w → K a w) → lexOp P ops Q S i b K a w) : wpLexE P ops Q S n ((i, b) :: l) a w := h _ (fun _ _ h => h)
theorem lexE_last {n : Nat} {a : Act} {w : World} (h : lastOp P ops Q n a w) : wpLexE P ops Q S n [] a w := h
end
end Go.Proofs.Ytnfhiakdbakpgaa
/- klass: what is written ahead of which its length stands. No condition. -/
namespace Go.Proofs.Ytnfhiakdbakpgaa
open Go.ChangeShapes Go.WideShapes Go.ChangeAt Go.RowKit
/-- Two cells that a region reads. -/
def Two2 (g : Nat) (x : Value) (h o : Nat) (y : Value) (w : World) : Prop := w.cell? ⟨g, 0, none⟩ = some x ∧ w.cell? ⟨h, o, none⟩ = some y
set_option maxRecDepth 100000 in
set_option maxHeartbeats 8000000 in
theorem sized_any (w : World) (g : Nat) (bs : List UInt8) {B : Nat} (h : WrB B w g bs) (fn : FuncId) (hen : ∀ (args : Array Value) (W : World), (callFunc fn args).run Try.prog W = .ok (.enter fn args) W) (caps : Array Value) (ib : List UInt8) (hlen : bs.length + 4 + ib.length ≤ 1048576)
    (HDO : ∀ (W : World) (gi : Nat), Below w.heap.size w W → w.heap.size ≤ gi → WrB (gi + 1) W gi [] → Calls Try.prog fn (#[.pointer (some ⟨gi, 0, none⟩)] ++ caps) W (WRet gi ib W)) :
    Calls Try.prog 20 #[.pointer (some ⟨g, 0, none⟩), .func (.func fn) #[] caps] w (WRet g (bs ++ z4 ib.length ++ ib) w) := by
  have hal : Below w.heap.size w (w.alloc (.cells #[.slice none 0 0] 54)) := below_1 _ _
  have HP := Lib.hid (HDO _ _ hal (Nat.le_refl _) (WrB.new w))
  have hgi : w.heap.size ≠ g := by have := h.lt; omega
  have HGL := Lib.hid h.lt
  have HW := Lib.hid h
  have HAL := Lib.hid hal
  obtain ⟨T, hT⟩ : ∃ T, T = bs ++ z4 ib.length ++ ib := ⟨_, rfl⟩
  rw [← hT]
  have HT := Lib.hid hT
  clear hal HDO h hT
  go_enter Try.func20, Try.ntmps20
  go_wp2_with fail
  refine HP.out.mono ?_
  rintro e W1 ⟨rfl, hw1, hk1⟩
  have HB1 := Lib.hid (hk1.below HAL.out (Nat.le_refl _) (Nat.le_refl _))
  have HW1 := Lib.hid (HW.out.below HB1.out)
  have HK1 := Lib.hid (Keep1.of (g := g) HB1.out)
  obtain ⟨a1, n1, c1, hr1, hs1, hc1, hg1, ho1⟩ := hw1
  have HN1 := Lib.hid (show n1 = ib.length from hs1.1.symm)
  have hn1 : bs.length + 4 + n1 ≤ 1048576 := by have := HN1.out; omega
  have HR1 := Lib.hid hr1
  have HS1 := Lib.hid hs1
  have HO1 := Lib.hid (Off1.own (g := g) ho1 (by have := HGL.out; omega))
  clear hk1 hr1 hs1 ho1 HP HW HAL
  have c1v := row_cell HR1.out 0 rfl
  dsimp at c1v
  go_wp2_with fail
  refine (u4_any W1 g bs HW1.out n1 (by omega)).mono ?_
  rintro e W2 ⟨rfl, hw2, hk2⟩
  have HR2 := Lib.hid (hk2.blk HR1.out hgi)
  have HS2 := Lib.hid (HS1.out.keep1 hk2 HO1.out)
  have HK2 := Lib.hid (HK1.out.trans hk2)
  have HM2 := Lib.hid (hw2.mono HB1.out.size HGL.out)
  clear hw2 hk2 HR1 HS1 HK1 HW1 HB1 c1v
  obtain ⟨a2, n2, c2, hr2, hs2, hc2, hg2, ho2⟩ := HM2.out
  have hn2 : n2 + n1 ≤ 1048576 := by have := hs2.1; rw [List.length_append, z4_len] at this; omega
  have HT := Lib.hid (show T = (bs ++ z4 n1) ++ ib by rw [HT.out, HN1.out])
  have HG2 := Lib.hid hr2
  have HO2 := Lib.hid ho2
  clear hr2 hs2 ho2 HM2
  go_upto_region 3 with fail
  have hSw : Two2 g (.slice a2 n2 c2) w.heap.size 0 (.slice a1 n1 c1) W2.drew := ⟨row_cell (row_below HG2.out (Below.refl _ _).drew) 0 rfl, row_cell (row_below HR2.out (Below.refl _ _).drew) 0 rfl⟩
  have l0 := fun z (h : Two2 g (.slice a2 n2 c2) w.heap.size 0 (.slice a1 n1 c1) z) => h.1
  have l1 := fun z (h : Two2 g (.slice a2 n2 c2) w.heap.size 0 (.slice a1 n1 c1) z) => h.2
  refine wp_region_lexE (Two2 g (.slice a2 n2 c2) w.heap.size 0 (.slice a1 n1 c1)) 12 [(0, true), (1, true), (2, true), (3, true), (4, true), (5, true), (6, true), (7, true), (8, true), (9, false), (10, true), (11, true)] (by kernel_rfl) (by kernel_rfl) (fun c a d v w h => by cases d <;> exact h) ?_
  iterate 9
    refine lexE_step (fun K hK => ?_)
    simp only [lexOp, List.getElem?_toArray, List.getElem?_cons_succ, List.getElem?_cons_zero]
    rw [if_pos (by rfl)]
    apply Exists.intro
    refine ⟨fun w' hS' => ?_, hSw, ?_⟩
    · first | (go_simp <;> with_reducible rfl) | (go_simp; go_bits; with_reducible rfl)
    go_simp
    try go_bits
    refine hK _ _ ?_
    clear hK K
  refine lexE_step (fun K hK => ?_)
  simp only [lexOp, List.getElem?_toArray, List.getElem?_cons_succ, List.getElem?_cons_zero]
  rw [if_pos (by rfl)]
  change Oper.wp _ _ _ _ _ _
  refine wp_appK oneBu (ops := #[]) rfl _ _ _ rfl w.heap.size _ n2 _ rfl (own_below HO2.out (Below.refl _ _).drew) _ n1 _ rfl ((HS2.out.below (Below.refl _ _).drew).src encB_cell Try.underlying29 _) (by omega) (by unfold maxLen; omega) HK2.out.size ?_
  intro v3 W3 hown3 hg3 hb3
  have hkt := KeptT.app0 (own_below HO2.out (Below.refl _ _).drew) hg3
  have HG3 := Lib.hid (hkt.2 _ _ _ _ HG2.out (by decide))
  have HR3 := Lib.hid (hkt.2 _ _ _ _ HR2.out (by decide))
  replace hSw : Two2 g (.slice a2 n2 c2) w.heap.size 0 (.slice a1 n1 c1) W3 := ⟨row_cell HG3.out 0 rfl, row_cell HR3.out 0 rfl⟩
  have HK3 := Lib.hid (keep1_app HK2.out.drew (own_below HO2.out (Below.refl _ _).drew) hg3)
  rw [← List.map_append, ← HT.out] at hown3
  obtain ⟨a3, c3, rfl, -, -⟩ := Sl.ofOwn hown3
  have HO3 := Lib.hid hown3
  clear hkt hown3 hg3 hb3
  refine ⟨hSw, hK _ _ ?_⟩
  clear hK K
  iterate 2
    refine lexE_step (fun K hK => ?_)
    simp only [lexOp, List.getElem?_toArray, List.getElem?_cons_succ, List.getElem?_cons_zero]
    rw [if_pos (by rfl)]
    apply Exists.intro
    refine ⟨fun w' hS' => ?_, hSw, ?_⟩
    · first | (go_simp <;> with_reducible rfl) | (go_simp; go_bits; with_reducible rfl)
    go_simp
    try go_bits
    refine hK _ _ ?_
    clear hK K
  have fg := row_melt HG3.out 0
  have cg : W3.cell? ⟨g, 0, none⟩ = some (.slice a2 n2 c2) := row_cell HG3.out 0 rfl
  have ltg := row_lt HG3.out
  refine lexE_last ?_
  simp only [lastOp, List.getElem?_toArray, List.getElem?_cons_succ, List.getElem?_cons_zero]
  rw [if_pos (by rfl)]
  go_step
  go_end0
  exact ⟨rfl, WrB.set HG3.out HO3.out HGL.out rfl, HK3.out.set 0 _⟩
end Go.Proofs.Ytnfhiakdbakpgaa
