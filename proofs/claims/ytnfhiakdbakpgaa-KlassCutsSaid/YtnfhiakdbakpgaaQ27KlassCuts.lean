/- klass: the document's Right (printed by gen/klref3.py). No condition. -/
import Derived.Test.YtnfhiakdbakpgaaQ23KlassCuts
import Derived.Test.YtnfhiakdbakpgaaQ26KlassCuts
namespace Go.Proofs.Ytnfhiakdbakpgaa
open Go.ChangeShapes Go.WideShapes Go.ChangeAt Go.RowKit
theorem classOk_iff (f : KF) : classOk f = true ↔ (poolOk f.pool = true ∧ clsOk f.pool f.th = true ∧ (f.su = 0 ∨ clsOk f.pool f.su = true) ∧ (f.fields.length ≤ 64 ∧ f.methods.length ≤ 64) ∧ f.fields.all (fun d => membOk f.pool d.fl d.nm d.ds) = true ∧ f.methods.all (methOk f.pool) = true) := by
  unfold classOk
  simp only [Bool.and_eq_true, Bool.or_eq_true, decide_eq_true_eq]
  constructor
  · rintro ⟨⟨⟨⟨⟨h1, h2⟩, h3⟩, h4⟩, h5⟩, h6⟩
    exact ⟨h1, h2, h3, h4, h5, h6⟩
  · rintro ⟨h1, h2, h3, h4, h5, h6⟩
    exact ⟨⟨⟨⟨⟨h1, h2⟩, h3⟩, h4⟩, h5⟩, h6⟩
/-- What is asked of a class, in numbers. -/
def ClsQ (pr c1 : Bool) (su : Int) (c2 : Bool) (fn mn : Nat) (fs ms : Bool) : Prop := pr = true ∧ c1 = true ∧ (su = 0 ∨ c2 = true) ∧ (fn ≤ 64 ∧ mn ≤ 64) ∧ fs = true ∧ ms = true
set_option maxRecDepth 100000 in
set_option maxHeartbeats 32000000 in
theorem rRight_any (w : World) (f : KF) (h : f.Rd w) (hpn : f.pn ≤ 65536) (hps : ∀ i : Nat, i < f.pn → (kAt f.pool i).s.length ≤ 65536) (hbig : f.Big) :
    Calls Try.prog 10 #[.agg f.vals] w (BoolRet (classOk f) w) := by
  obtain ⟨R, hR⟩ : ∃ R, R = classOk f := ⟨_, rfl⟩
  have hq := classOk_iff f
  rw [← hR] at hq ⊢
  have hl2 := h.fields.1
  have hl3 := h.methods.1
  have HQ := Lib.hid (show R = true ↔ ClsQ (poolOk f.pool) (clsOk f.pool f.th) f.su (clsOk f.pool f.su) f.fn f.mn (f.fields.all (fun d => membOk f.pool d.fl d.nm d.ds)) (f.methods.all (methOk f.pool)) by
    rw [hq, hl2, hl3]; rfl)
  have HX := Lib.hid h
  have HPS := Lib.hid hps
  have HBE := Lib.hid hbig.each
  have hfb := hbig.fn
  have hmb := hbig.mn
  clear hq hR hl2 hl3 h hps hbig
  obtain ⟨pa, pn, pc, pool, th, su, fa, fn, fc, fields, ma, mn, mc, methods⟩ := f
  unfold KF.vals
  dsimp only at *
  have hal : Below w.heap.size w (w.alloc (.cells #[.slice pa pn pc, .int .i64 th, .int .i64 su, .slice fa fn fc, .slice ma mn mc] 26)) := below_1 _ _
  have HT0 := Lib.hid (heap_alloc_last w (.cells #[.slice pa pn pc, .int .i64 th, .int .i64 su, .slice fa fn fc, .slice ma mn mc] 26))
  have HB0 := Lib.hid hal
  clear hal
  go_enter Try.func10, Try.ntmps10
  go_upto_region 1 with fail
  generalize w.alloc (.cells #[.slice pa pn pc, .int .i64 th, .int .i64 su, .slice fa fn fc, .slice ma mn mc] 26) = W0 at *
  obtain ⟨bf, hbf⟩ : ∃ b, b = w.heap.size := ⟨_, rfl⟩
  rw [← hbf] at HT0 ⊢
  clear hbf
  have HPR := Lib.hid (refRight_any W0 pa pn pc pool (HX.out.pool.below HB0.out) hpn HPS.out)
  have HC1 := Lib.hid (fun w' (hb : Below w.heap.size w w') => rclass_any w' pa pn pc pool th (HX.out.pool.below hb) hpn)
  have HC2 := Lib.hid (fun w' (hb : Below w.heap.size w w') => rclass_any w' pa pn pc pool su (HX.out.pool.below hb) hpn)
  generalize poolOk pool = pr at *
  generalize clsOk pool th = c1 at *
  generalize clsOk pool su = c2 at *
  have k0 := row_cell HT0.out 0 rfl
  go_cut [43] (fun r wx => ∃ bad : Bool, r = .bool bad ∧ Hid (bad = true → false = R) ∧ Hid (bad = false → pr = true ∧ c1 = true ∧ (su = 0 ∨ c2 = true) ∧ (fn ≤ 64 ∧ mn ≤ 64)) ∧ Hid (Below w.heap.size w wx) ∧ Hid (wx.heap[bf]? = some (.cells #[.slice pa pn pc, .int .i64 th, .int .i64 su, .slice fa fn fc, .slice ma mn mc] 26)))
  case first =>
    have k1 := row_cell HT0.out 1 rfl
    have k2 := row_cell HT0.out 2 rfl
    have k3 := row_cell HT0.out 3 rfl
    have k4 := row_cell HT0.out 4 rfl
    go_wp2_with fail
    refine HPR.out.mono ?_
    rintro e W1 ⟨rfl, hb⟩
    have HBW1 := Lib.hid (HB0.out.trans (hb.mono HB0.out.size))
    have HTW1 := Lib.hid (row_below HT0.out hb)
    clear hb
    have k1 := row_cell HTW1.out 1 rfl
    have k2 := row_cell HTW1.out 2 rfl
    have k0 := row_cell HTW1.out 0 rfl
    have k3 := row_cell HTW1.out 3 rfl
    have k4 := row_cell HTW1.out 4 rfl
    cases pr with
    | false =>
      have HF1 := Lib.hid (show true = true → false = R from fun _ => no_of HQ.out (fun hq => by cases hq.1))
      have HF2 := Lib.hid (show true = false → (false : Bool) = true ∧ c1 = true ∧ (su = 0 ∨ c2 = true) ∧ (fn ≤ 64 ∧ mn ≤ 64) from fun h => by cases h)
      clear HQ
      go_wp2_with fail
      go_meet
      exact ⟨true, rfl, Lib.hid (by first | exact HF1.out | simpa using HF1.out | simp), Lib.hid (by first | exact HF2.out | simpa using HF2.out | simp), HBW1, HTW1⟩
    | true =>
      go_wp2_with fail
      refine (HC1.out W1 HBW1.out).mono ?_
      rintro e W2 ⟨rfl, hb⟩
      have HBW2 := Lib.hid (HBW1.out.trans (hb.mono HBW1.out.size))
      have HTW2 := Lib.hid (row_below HTW1.out hb)
      clear hb
      have k1 := row_cell HTW2.out 1 rfl
      have k2 := row_cell HTW2.out 2 rfl
      have k0 := row_cell HTW2.out 0 rfl
      have k3 := row_cell HTW2.out 3 rfl
      have k4 := row_cell HTW2.out 4 rfl
      cases c1 with
      | false =>
        have HF1 := Lib.hid (show true = true → false = R from fun _ => no_of HQ.out (fun hq => by cases hq.2.1))
        have HF2 := Lib.hid (show true = false → (true : Bool) = true ∧ (false : Bool) = true ∧ (su = 0 ∨ c2 = true) ∧ (fn ≤ 64 ∧ mn ≤ 64) from fun h => by cases h)
        clear HQ
        go_wp2_with fail
        go_meet
        exact ⟨true, rfl, Lib.hid (by first | exact HF1.out | simpa using HF1.out | simp), Lib.hid (by first | exact HF2.out | simpa using HF2.out | simp), HBW2, HTW2⟩
      | true =>
        by_cases h0 : su = 0
        · have e0 : (su != 0) = false := by simp [h0]
          have HS0 := Lib.hid h0
          clear h0
          by_cases h1 : 64 < fn
          · have e1 : decide ((64 : Int) < fn) = true := decide_eq_true (by omega)
            have HF1 := Lib.hid (show true = true → false = R from fun _ => no_of HQ.out (fun hq => by have h2 := hq.2.2.2.1; omega))
            have HF2 := Lib.hid (show true = false → (true : Bool) = true ∧ (true : Bool) = true ∧ (su = 0 ∨ c2 = true) ∧ (fn ≤ 64 ∧ mn ≤ 64) from fun h => by cases h)
            clear HQ
            go_wp2_with fail
            go_meet
            exact ⟨true, rfl, Lib.hid (by first | exact HF1.out | simpa using HF1.out | simp), Lib.hid (by first | exact HF2.out | simpa using HF2.out | simp), HBW2, HTW2⟩
          · have e1 : decide ((64 : Int) < fn) = false := decide_eq_false (by omega)
            by_cases h2 : 64 < mn
            · have e2 : decide ((64 : Int) < mn) = true := decide_eq_true (by omega)
              have HF1 := Lib.hid (show true = true → false = R from fun _ => no_of HQ.out (fun hq => by have h2 := hq.2.2.2.1; omega))
              have HF2 := Lib.hid (show true = false → (true : Bool) = true ∧ (true : Bool) = true ∧ (su = 0 ∨ c2 = true) ∧ (fn ≤ 64 ∧ mn ≤ 64) from fun h => by cases h)
              clear HQ
              go_wp2_with fail
              go_meet
              exact ⟨true, rfl, Lib.hid (by first | exact HF1.out | simpa using HF1.out | simp), Lib.hid (by first | exact HF2.out | simpa using HF2.out | simp), HBW2, HTW2⟩
            · have e2 : decide ((64 : Int) < mn) = false := decide_eq_false (by omega)
              have HF1 := Lib.hid (show false = true → false = R from fun h => by cases h)
              have HF2 := Lib.hid (show false = false → (true : Bool) = true ∧ (true : Bool) = true ∧ (su = 0 ∨ c2 = true) ∧ (fn ≤ 64 ∧ mn ≤ 64) from fun _ => ⟨rfl, rfl, .inl HS0.out, by omega, by omega⟩)
              clear HQ
              go_wp2_with fail
              go_meet
              exact ⟨false, rfl, Lib.hid (by first | exact HF1.out | simpa using HF1.out | simp), Lib.hid (by first | exact HF2.out | simpa using HF2.out | simp), HBW2, HTW2⟩
        · have e0 : (su != 0) = true := by simp [h0]
          have HS0 := Lib.hid h0
          clear h0
          go_wp2_with fail
          refine (HC2.out W2 HBW2.out).mono ?_
          rintro e W3 ⟨rfl, hb⟩
          have HBW3 := Lib.hid (HBW2.out.trans (hb.mono HBW2.out.size))
          have HTW3 := Lib.hid (row_below HTW2.out hb)
          clear hb
          have k1 := row_cell HTW3.out 1 rfl
          have k2 := row_cell HTW3.out 2 rfl
          have k0 := row_cell HTW3.out 0 rfl
          have k3 := row_cell HTW3.out 3 rfl
          have k4 := row_cell HTW3.out 4 rfl
          cases c2 with
          | false =>
            have HF1 := Lib.hid (show true = true → false = R from fun _ => no_of HQ.out (fun hq => by exact hq.2.2.1.elim HS0.out (fun h => by cases h)))
            have HF2 := Lib.hid (show true = false → (true : Bool) = true ∧ (true : Bool) = true ∧ (su = 0 ∨ (false : Bool) = true) ∧ (fn ≤ 64 ∧ mn ≤ 64) from fun h => by cases h)
            clear HQ
            go_wp2_with fail
            go_meet
            exact ⟨true, rfl, Lib.hid (by first | exact HF1.out | simpa using HF1.out | simp), Lib.hid (by first | exact HF2.out | simpa using HF2.out | simp), HBW3, HTW3⟩
          | true =>
            by_cases h1 : 64 < fn
            · have e1 : decide ((64 : Int) < fn) = true := decide_eq_true (by omega)
              have HF1 := Lib.hid (show true = true → false = R from fun _ => no_of HQ.out (fun hq => by have h2 := hq.2.2.2.1; omega))
              have HF2 := Lib.hid (show true = false → (true : Bool) = true ∧ (true : Bool) = true ∧ (su = 0 ∨ (true : Bool) = true) ∧ (fn ≤ 64 ∧ mn ≤ 64) from fun h => by cases h)
              clear HQ
              go_wp2_with fail
              go_meet
              exact ⟨true, rfl, Lib.hid (by first | exact HF1.out | simpa using HF1.out | simp), Lib.hid (by first | exact HF2.out | simpa using HF2.out | simp), HBW3, HTW3⟩
            · have e1 : decide ((64 : Int) < fn) = false := decide_eq_false (by omega)
              by_cases h2 : 64 < mn
              · have e2 : decide ((64 : Int) < mn) = true := decide_eq_true (by omega)
                have HF1 := Lib.hid (show true = true → false = R from fun _ => no_of HQ.out (fun hq => by have h2 := hq.2.2.2.1; omega))
                have HF2 := Lib.hid (show true = false → (true : Bool) = true ∧ (true : Bool) = true ∧ (su = 0 ∨ (true : Bool) = true) ∧ (fn ≤ 64 ∧ mn ≤ 64) from fun h => by cases h)
                clear HQ
                go_wp2_with fail
                go_meet
                exact ⟨true, rfl, Lib.hid (by first | exact HF1.out | simpa using HF1.out | simp), Lib.hid (by first | exact HF2.out | simpa using HF2.out | simp), HBW3, HTW3⟩
              · have e2 : decide ((64 : Int) < mn) = false := decide_eq_false (by omega)
                have HF1 := Lib.hid (show false = true → false = R from fun h => by cases h)
                have HF2 := Lib.hid (show false = false → (true : Bool) = true ∧ (true : Bool) = true ∧ (su = 0 ∨ (true : Bool) = true) ∧ (fn ≤ 64 ∧ mn ≤ 64) from fun _ => ⟨rfl, rfl, .inr rfl, by omega, by omega⟩)
                clear HQ
                go_wp2_with fail
                go_meet
                exact ⟨false, rfl, Lib.hid (by first | exact HF1.out | simpa using HF1.out | simp), Lib.hid (by first | exact HF2.out | simpa using HF2.out | simp), HBW3, HTW3⟩
  case rest =>
    obtain ⟨bad, rfl, HBAD, HGOOD, HB1, HT1⟩ := hcut
    clear k0 HPR HC1 HC2 HB0 HT0
    have k3 := row_cell HT1.out 3 rfl
    cases bad with
    | true =>
      have HF := Lib.hid (HBAD.out rfl)
      go_wp2_with fail
      go_ret
      exact BoolRet.of HF.out HB1.out
    | false =>
    have HGD := Lib.hid (HGOOD.out rfl)
    clear HBAD HGOOD
    go_wp2_with fail
    clear k3
    go_loopg [47] fn (fun gn i wr => ∃ j : Nat, j ≤ fn ∧ gn = fn - j ∧ i = .int .i64 j ∧ Hid ((fields.take j).all (fun d => membOk pool d.fl d.nm d.ds) = true) ∧ Hid (Below w.heap.size w wr) ∧ Hid (wr.heap[bf]? = some (.cells #[.slice pa pn pc, .int .i64 th, .int .i64 su, .slice fa fn fc, .slice ma mn mc] 26)))
    case atStart => exact ⟨0, by omega, by omega, by go_num, Lib.hid (by simp), HB1, HT1⟩
    case round =>
      clear HB1 HT1
      obtain ⟨j, hj, rfl, rfl, HA, HB, HT⟩ := hrel
      by_cases hlt : j < fn
      · obtain ⟨b, off, x, rfl, _, hv, q⟩ := Ss.getC (HX.out.fields.below HB.out) j hlt
        have HN := Lib.hid (fun (h : membOk pool x.fl x.nm x.ds = false) => show false = R from no_of HQ.out (fun hq => by have h2 := hq.2.2.2.2.1; rw [all_in_false hv h] at h2; cases h2))
        have HY := Lib.hid (fun (h : membOk pool x.fl x.nm x.ds = true) => show (fields.take (j + 1)).all (fun d => membOk pool d.fl d.nm d.ds) = true by rw [all_take _ _ _ _ hv, HA.out, h]; rfl)
        obtain ⟨fl, nm, ds⟩ := x
        dsimp only at HN HY
        have q0 : wr.cell? ⟨b, off + j * 3, none⟩ = some (.int .i64 fl) := q 0 (by omega)
        have q1 : wr.cell? ⟨b, off + j * 3 + 1, none⟩ = some (.int .i64 nm) := q 1 (by omega)
        have q2 : wr.cell? ⟨b, off + j * 3 + 2, none⟩ = some (.int .i64 ds) := q 2 (by omega)
        clear q hv
        have hal : Below wr.heap.size wr (wr.alloc (.cells #[.int .i64 fl, .int .i64 nm, .int .i64 ds] 59)) := below_1 _ _
        have HXF := Lib.hid (heap_alloc_last wr (.cells #[.int .i64 fl, .int .i64 nm, .int .i64 ds] 59))
        have HB2 := Lib.hid (HB.out.trans (hal.mono HB.out.size))
        have HT2 := Lib.hid (row_below HT.out hal)
        have hj1 : (j : Int) < fn := by omega
        go_upto_region 6 with fail
        clear q0 q1 q2 hal HB HT
        generalize wr.alloc (.cells #[.int .i64 fl, .int .i64 nm, .int .i64 ds] 59) = W1 at *
        generalize wr.heap.size = bt at *
        have p0 := row_cell HXF.out 0 rfl
        have p1 := row_cell HXF.out 1 rfl
        have p2 := row_cell HXF.out 2 rfl
        have k0 := row_cell HT2.out 0 rfl
        have HMB := Lib.hid (rmember_any W1 pa pn pc pool fl nm ds (HX.out.pool.below HB2.out) hpn)
        generalize membOk pool fl nm ds = ok at *
        go_wp2_with fail
        refine HMB.out.mono ?_
        rintro e w2 ⟨rfl, hb⟩
        have HB3 := Lib.hid (HB2.out.trans (hb.mono HB2.out.size))
        have HT3 := Lib.hid (row_below HT2.out hb)
        clear hb HMB p0 p1 p2 k0 HB2 HT2
        cases ok with
        | false =>
          have HF := Lib.hid (HN.out rfl)
          go_wp2_with fail
          go_ret
          exact BoolRet.of HF.out HB3.out
        | true =>
          have HF := Lib.hid (HY.out rfl)
          go_wp2_with fail
          go_roundg (fn - (j + 1))
          case measure => omega
          case rel => exact ⟨j + 1, by omega, rfl, by go_num, HF, HB3, HT3⟩
      · obtain rfl : fn = j := by omega
        have HFA := Lib.hid (show fields.all (fun d => membOk pool d.fl d.nm d.ds) = true from all_full HA.out HX.out.fields.1)
        clear HA
        have k4 := row_cell HT.out 4 rfl
        go_wp2_with fail
        clear k4
        go_loopg [65] mn (fun gn i wr => ∃ j : Nat, j ≤ mn ∧ gn = mn - j ∧ i = .int .i64 j ∧ Hid ((methods.take j).all (methOk pool) = true) ∧ Hid (Below w.heap.size w wr) ∧ Hid (wr.heap[bf]? = some (.cells #[.slice pa pn pc, .int .i64 th, .int .i64 su, .slice fa fn fc, .slice ma mn mc] 26)))
        case atStart => exact ⟨0, by omega, by omega, by go_num, Lib.hid (by simp), HB, HT⟩
        case round =>
          clear HB HT
          obtain ⟨j, hj, rfl, rfl, HA, HB, HT⟩ := hrel
          by_cases hlt : j < mn
          · obtain ⟨b, off, x, rfl, _, hv, q⟩ := Ss.getC (HX.out.methods.below HB.out) j hlt
            have HN := Lib.hid (fun (h : methOk pool x = false) => show false = R from no_of HQ.out (fun hq => by have h2 := hq.2.2.2.2.2; rw [all_in_false hv h] at h2; cases h2))
            have HY := Lib.hid (fun (h : methOk pool x = true) => show (methods.take (j + 1)).all (methOk pool) = true by rw [all_take _ _ _ _ hv, HA.out, h]; rfl)
            have hxr := HX.out.each x (List.mem_of_getElem? hv)
            have hxb := HBE.out x (List.mem_of_getElem? hv)
            have HMB := Lib.hid (fun w' (hb : Below w.heap.size w w') => rmethod_any w' pa pn pc pool x (HX.out.pool.below hb) hpn (hxr.below hb) hxb.1 hxb.2.1 hxb.2.2.1 hxb.2.2.2)
            clear hxr hxb
            generalize methOk pool x = ok at *
            obtain ⟨fl, nm, ds, st, lo, ca, cn, cc, code, ta, tn, tc, traps, na, nn, nc, maps⟩ := x
            dsimp only at HMB
            have q0 : wr.cell? ⟨b, off + j * 8, none⟩ = some (.int .i64 fl) := q 0 (by omega)
            have q1 : wr.cell? ⟨b, off + j * 8 + 1, none⟩ = some (.int .i64 nm) := q 1 (by omega)
            have q2 : wr.cell? ⟨b, off + j * 8 + 2, none⟩ = some (.int .i64 ds) := q 2 (by omega)
            have q3 : wr.cell? ⟨b, off + j * 8 + 3, none⟩ = some (.int .i64 st) := q 3 (by omega)
            have q4 : wr.cell? ⟨b, off + j * 8 + 4, none⟩ = some (.int .i64 lo) := q 4 (by omega)
            have q5 : wr.cell? ⟨b, off + j * 8 + 5, none⟩ = some (.slice ca cn cc) := q 5 (by omega)
            have q6 : wr.cell? ⟨b, off + j * 8 + 6, none⟩ = some (.slice ta tn tc) := q 6 (by omega)
            have q7 : wr.cell? ⟨b, off + j * 8 + 7, none⟩ = some (.slice na nn nc) := q 7 (by omega)
            clear q hv
            have hal : Below wr.heap.size wr (wr.alloc (.cells #[.int .i64 fl, .int .i64 nm, .int .i64 ds, .int .i64 st, .int .i64 lo, .slice ca cn cc, .slice ta tn tc, .slice na nn nc] 48)) := below_1 _ _
            have HXM := Lib.hid (heap_alloc_last wr (.cells #[.int .i64 fl, .int .i64 nm, .int .i64 ds, .int .i64 st, .int .i64 lo, .slice ca cn cc, .slice ta tn tc, .slice na nn nc] 48))
            have HB2 := Lib.hid (HB.out.trans (hal.mono HB.out.size))
            have HT2 := Lib.hid (row_below HT.out hal)
            have hj1 : (j : Int) < mn := by omega
            go_upto_region 12 with fail
            clear q0 q1 q2 q3 q4 q5 q6 q7 hal HB HT
            generalize wr.alloc (.cells #[.int .i64 fl, .int .i64 nm, .int .i64 ds, .int .i64 st, .int .i64 lo, .slice ca cn cc, .slice ta tn tc, .slice na nn nc] 48) = W1 at *
            generalize wr.heap.size = bt at *
            have p0 := row_cell HXM.out 0 rfl
            have p1 := row_cell HXM.out 1 rfl
            have p2 := row_cell HXM.out 2 rfl
            have p3 := row_cell HXM.out 3 rfl
            have p4 := row_cell HXM.out 4 rfl
            have p5 := row_cell HXM.out 5 rfl
            have p6 := row_cell HXM.out 6 rfl
            have p7 := row_cell HXM.out 7 rfl
            dsimp at p0 p1 p2 p3 p4 p5 p6 p7
            have k0 := row_cell HT2.out 0 rfl
            go_wp2_with fail
            refine (HMB.out W1 HB2.out).mono ?_
            rintro e w2 ⟨rfl, hb⟩
            have HB3 := Lib.hid (HB2.out.trans (hb.mono HB2.out.size))
            have HT3 := Lib.hid (row_below HT2.out hb)
            clear hb HMB p0 p1 p2 p3 p4 p5 p6 p7 k0 HB2 HT2
            cases ok with
            | false =>
              have HF := Lib.hid (HN.out rfl)
              go_wp2_with fail
              go_ret
              exact BoolRet.of HF.out HB3.out
            | true =>
              have HF := Lib.hid (HY.out rfl)
              go_wp2_with fail
              go_roundg (mn - (j + 1))
              case measure => omega
              case rel => exact ⟨j + 1, by omega, rfl, by go_num, HF, HB3, HT3⟩
          · obtain rfl : mn = j := by omega
            have HMA := Lib.hid (show methods.all (methOk pool) = true from all_full HA.out HX.out.methods.1)
            have HF := Lib.hid (yes_of HQ.out ⟨HGD.out.1, HGD.out.2.1, HGD.out.2.2.1, HGD.out.2.2.2, HFA.out, HMA.out⟩)
            go_wp2_with fail
            go_ret
            exact BoolRet.of HF.out HB.out
end Go.Proofs.Ytnfhiakdbakpgaa
/- klass: the document's u2, u4, slotBytes, codeBytes (printed by gen/klrefb.py). No condition. -/
namespace Go.Proofs.Ytnfhiakdbakpgaa
open Go.ChangeShapes Go.WideShapes Go.ChangeAt Go.RowKit
theorem flat_room {α : Type} (F : α → List UInt8) (l : List α) (j : Nat) (v : α) (h : l[j]? = some v) : ((l.take j).flatMap F).length + (F v).length ≤ (l.flatMap F).length := by
  have h1 : l.flatMap F = (l.take (j + 1)).flatMap F ++ (l.drop (j + 1)).flatMap F := by rw [← List.flatMap_append, List.take_append_drop]
  rw [h1, flat_take F l j v h, List.length_append, List.length_append]
  omega
theorem own_lenB {w : World} {B : Nat} {e : TypeId} {v : Value} {n : Nat} {xs : List UInt8} (h : w.ownsRow B e 1 v n (xs.map encB)) : n = xs.length := by have := h.1; simpa using this.symm
theorem own_slB {w : World} {B : Nat} {e : TypeId} {a : Option Addr} {n c : Nat} {xs : List UInt8} (h : w.ownsRow B e 1 (.slice a n c) n (xs.map encB)) : Sl encB w a n xs := by
  obtain ⟨a', c', e', hs, _⟩ := Sl.ofOwn h
  cases e'
  exact hs
set_option maxRecDepth 100000 in
set_option maxHeartbeats 8000000 in
theorem ru2_any (w : World) (a : Option Addr) (n cap : Nat) (bs : List UInt8) (hs : Sl encB w a n bs) (za : Option Addr) (zn zc : Nat) (l : List Int) (hz : Sl encZ w za zn l) (h0 : 0 < zn) (hlen : n + zn * 2 ≤ 1048576) :
    Calls Try.prog 41 #[.slice a n cap, .slice za zn zc] w (OwnRet encB 5 w.heap.size w (bs ++ z2 l)) := by
  have HS := Lib.hid hs
  have HZ := Lib.hid hz
  have HLn := Lib.hid hz.1
  have HLb := Lib.hid hs.1
  clear hs hz
  go_enter Try.func41, Try.ntmps41
  go_wp2_with fail
  go_loopg [9, 0] zn (fun gn i v wr => ∃ (j : Nat) (a' : Option Addr) (n' c' : Nat), j ≤ zn ∧ gn = zn - j ∧ i = .int .i64 j ∧ v = .slice a' n' c' ∧ n' ≤ 1048576 ∧ Hid (Sl encB wr a' n' (bs ++ z2 (l.take j))) ∧ Hid (0 < j → wr.ownsRow w.heap.size 5 1 (.slice a' n' c') n' ((bs ++ z2 (l.take j)).map encB)) ∧ Hid (Below w.heap.size w wr))
  case atStart => exact ⟨0, a, n, cap, by omega, by omega, by go_num, rfl, by omega, Lib.hid (by simpa [z2] using HS.out), Lib.hid (fun h => absurd h (Nat.lt_irrefl 0)), Lib.hid (Below.refl _ _)⟩
  case round =>
    obtain ⟨j, a', n', c', hj, rfl, rfl, rfl, hn', HSL, HO, HB⟩ := hrel
    by_cases hlt : j < zn
    · obtain ⟨b, off, x, rfl, _, hv, q0⟩ := (HZ.out.below HB.out).getZ j hlt
      have HF := Lib.hid (show bs ++ z2 (l.take (j + 1)) = (bs ++ z2 (l.take j)) ++ putB (u64N x) 2 by unfold z2; rw [flat_take _ l j x hv, List.append_assoc])
      obtain ⟨u, hu⟩ : ∃ u, u = u64N x := ⟨_, rfl⟩
      have wx : IntKind.u64.wrap x = (u : Int) := by rw [hu]; exact u64N_wrap x
      have hul : u < 18446744073709551616 := by rw [hu]; exact u64N_lt _
      rw [← hu] at HF
      have HNL := Lib.hid (show n' + 2 ≤ 1048576 by
        have h1 := HSL.out.1
        rw [List.length_append, z2_len, List.length_take, HLb.out, HLn.out] at h1
        omega)
      have HC := Lib.hid (refPut_any wr a' n' c' (bs ++ z2 (l.take j)) u 2 HSL.out hn' hul (by decide) (by decide))
      have hj1 : (j : Int) < zn := by omega
      clear hv hu hul HSL HO
      go_wp2_with fail
      refine HC.out.mono ?_
      rintro e' W1 ⟨v1, m1, rfl, ho1, hb1⟩
      obtain ⟨a1, c1, rfl, hs1, -⟩ := Sl.ofOwn ho1
      have HS1 := Lib.hid hs1
      have HO1 := Lib.hid (own_mono ho1 HB.out.size)
      have HB1 := Lib.hid (HB.out.trans (hb1.mono HB.out.size))
      have HM1 := Lib.hid (show m1 ≤ 1048576 by
        have h1 := hs1.1
        have h2 := HC
        have h3 := HNL.out
        rw [← HF.out, List.length_append, z2_len, List.length_take, HLb.out, HLn.out] at h1
        omega)
      clear ho1 hs1 hb1 HC
      go_wp2_with fail
      go_roundg (zn - (j + 1))
      case measure => omega
      case rel => exact ⟨j + 1, a1, m1, c1, by omega, rfl, by go_num, rfl, HM1.out, Lib.hid (by rw [HF.out]; exact HS1.out), Lib.hid (fun _ => by rw [HF.out]; exact HO1.out), HB1⟩
    · obtain rfl : zn = j := by omega
      have HE := Lib.hid (show l.take zn = l by rw [List.take_of_length_le (by rw [HLn.out]; exact Nat.le_refl _)])
      rw [HE.out] at HO
      go_wp2_with fail
      go_ret
      exact ⟨_, _, rfl, HO.out h0, HB.out⟩
theorem ru2_lit (w : World) (a : Option Addr) (n cap : Nat) (bs : List UInt8) (hs : Sl encB w a n bs) (k : Nat) (l : List Int) (hk : k = l.length) (h0 : 0 < k) (hlen : n + k * 2 ≤ 1048576) :
    Calls Try.prog 41 #[.slice a n cap, .slice (some ⟨w.heap.size, 0, none⟩) k k] (w.alloc (.cells (l.map encZ).toArray 3)) (OwnRet encB 5 w.heap.size w (bs ++ z2 l)) :=
  (ru2_any _ a n cap bs (hs.below (below_1 _ _)) _ k k l (Sl.litZ w k l 3 hk) h0 hlen).mono fun _ _ ⟨v, m, e, ho, hb⟩ => ⟨v, m, e, own_mono ho (below_1 w _).size, (below_1 w _).trans (hb.mono (below_1 w _).size)⟩
set_option maxRecDepth 100000 in
set_option maxHeartbeats 8000000 in
theorem ru4_any (w : World) (a : Option Addr) (n cap : Nat) (bs : List UInt8) (hs : Sl encB w a n bs) (v : Int) (hlen : n ≤ 1048576) :
    Calls Try.prog 45 #[.slice a n cap, .int .i64 v] w (OwnRet encB 5 w.heap.size w (bs ++ z4 v)) := by
  unfold z4
  obtain ⟨u, hu⟩ : ∃ u, u = u64N v := ⟨_, rfl⟩
  have wx : IntKind.u64.wrap v = (u : Int) := by rw [hu]; exact u64N_wrap v
  have hul : u < 18446744073709551616 := by rw [hu]; exact u64N_lt _
  rw [← hu]
  have HC := Lib.hid (refPut_any w a n cap bs u 4 hs hlen hul (by decide) (by decide))
  clear hs hu hul
  go_enter Try.func45, Try.ntmps45
  go_wp2_with fail
  refine HC.out.mono ?_
  rintro e' W1 ⟨v1, m1, rfl, ho1, hb1⟩
  obtain ⟨a1, c1, rfl, hs1, -⟩ := Sl.ofOwn ho1
  go_wp2_with fail
  go_ret
  exact ⟨_, _, rfl, ho1, hb1⟩
set_option maxRecDepth 100000 in
set_option maxHeartbeats 16000000 in
theorem rslotB_any (w : World) (a : Option Addr) (n cap : Nat) (bs : List UInt8) (hs : Sl encB w a n bs) (za : Option Addr) (zn zc : Nat) (l : List KS) (hz : Ss 2 KS.cells w za zn l) (hlen : n + (slotsB l).length ≤ 1000000) :
    Calls Try.prog 73 #[.slice a n cap, .slice za zn zc] w (OwnRet encB 5 w.heap.size w (bs ++ slotsB l)) := by
  have HZ := Lib.hid hz
  have HLn := Lib.hid hz.1
  have HLb := Lib.hid hs.1
  have hlen2 : n + (2 + (l.flatMap slotB).length) ≤ 1000000 := by unfold slotsB at hlen; rw [List.length_append, z2_len, List.length_cons, List.length_nil] at hlen; omega
  have HLEN := Lib.hid hlen2
  obtain ⟨R, hR⟩ : ∃ R, R = bs ++ slotsB l := ⟨_, rfl⟩
  rw [← hR]
  have HR := Lib.hid (show R = (bs ++ z2 [(zn : Int)]) ++ l.flatMap slotB by rw [hR]; unfold slotsB; rw [HLn.out, List.append_assoc])
  have hzn : zn ≤ 1000000 := by
    have h1 : ∀ l : List KS, l.length ≤ (l.flatMap slotB).length := by
      intro l
      induction l with
      | nil => simp
      | cons x t ih => rw [List.flatMap_cons, List.length_append, List.length_cons]; have := (slotB_len x).1; omega
    have := h1 l
    rw [HLn.out] at this
    omega
  have HU := Lib.hid (ru2_lit w a n cap bs hs 1 [(zn : Int)] rfl (by decide) (by omega))
  clear hs hz hlen hlen2 hR
  go_enter Try.func73, Try.ntmps73
  go_wp2_with fail
  refine HU.out.mono ?_
  rintro e' W1 ⟨v1, m1, rfl, ho1, hb1⟩
  obtain ⟨a1, c1, rfl, -, -⟩ := Sl.ofOwn ho1
  obtain ⟨e, he⟩ : ∃ e, e = bs ++ z2 [(zn : Int)] := ⟨_, rfl⟩
  rw [← he] at ho1 HR
  have HEL := Lib.hid (show e.length = n + 2 by rw [he, List.length_append, z2_len, HLb.out]; rfl)
  have HO1 := Lib.hid ho1
  have HB1 := Lib.hid hb1
  clear ho1 hb1 he HU
  go_wp2_with fail
  go_loopg [14, 0] zn (fun gn i v wr => ∃ (j : Nat) (a' : Option Addr) (n' c' : Nat), j ≤ zn ∧ gn = zn - j ∧ i = .int .i64 j ∧ v = .slice a' n' c' ∧ Hid (wr.ownsRow w.heap.size 5 1 (.slice a' n' c') n' ((e ++ (l.take j).flatMap slotB).map encB)) ∧ Hid (Below w.heap.size w wr))
  case atStart => exact ⟨0, a1, m1, c1, by omega, by omega, by go_num, rfl, Lib.hid (by simpa using HO1.out), HB1⟩
  case round =>
    obtain ⟨j, a', n', c', hj, rfl, rfl, rfl, HO, HB⟩ := hrel
    by_cases hlt : j < zn
    · obtain ⟨b, off, s, rfl, _, hv, q⟩ := Ss.getC (HZ.out.below HB.out) j hlt
      have HF := Lib.hid (show e ++ (l.take (j + 1)).flatMap slotB = (e ++ (l.take j).flatMap slotB) ++ slotB s by rw [flat_take slotB l j s hv, List.append_assoc])
      have hroom : n' + (slotB s).length ≤ 1000000 := by
        have h1 := flat_room slotB l j s hv
        have h2 := own_lenB HO.out
        have h3 := HLEN.out
        rw [List.length_append, HEL.out] at h2
        omega
      obtain ⟨tg, sa⟩ := s
      have q0 : wr.cell? ⟨b, off + j * 2, none⟩ = some (.int .i64 tg) := q 0 (by omega)
      have q1 : wr.cell? ⟨b, off + j * 2 + 1, none⟩ = some (.int .i64 sa) := q 1 (by omega)
      clear q hv
      generalize e ++ (l.take j).flatMap slotB = d at *
      have HD := Lib.hid (show slotB ⟨tg, sa⟩ = [u8N tg] ++ (if tg = 7 then z2 [sa] else []) from rfl)
      have hu8 := u8N_wrap tg
      rw [HD.out, List.length_append] at hroom
      rw [HD.out] at HF
      have hn' : n' + 1 ≤ 1000000 := by rw [List.length_cons, List.length_nil] at hroom; omega
      have HROOM := Lib.hid (fun (h : tg = 7) => show n' + 1 + 2 ≤ 1000000 by rw [if_pos h, z2_len, List.length_cons, List.length_nil] at hroom; simpa using hroom)
      generalize u8N tg = tb at *
      have hal : Below wr.heap.size wr (wr.alloc (.cells #[.int .i64 tg, .int .i64 sa] 119)) := below_1 _ _
      have HT := Lib.hid (heap_alloc_last wr (.cells #[.int .i64 tg, .int .i64 sa] 119))
      have HO4 := Lib.hid (own_below HO.out hal)
      have HB4 := Lib.hid (HB.out.trans (hal.mono HB.out.size))
      have hj1 : (j : Int) < zn := by omega
      go_upto_region 5 with fail
      clear q0 q1 hal HO HB hroom HD
      generalize wr.alloc (.cells #[.int .i64 tg, .int .i64 sa] 119) = W4 at *
      generalize wr.heap.size = bt at *
      have k0 := row_cell HT.out 0 rfl
      dsimp at k0
      go_upto_region 6 with (at_builtin; refine wpList_app_lit oneN rfl _ _ rfl w.heap.size _ _ _ rfl HO4.out _ 1 _ rfl rfl rfl (by omega) (by unfold maxLen; omega) HB4.out.size ?_; intro v5 W5 hown5 hg5 hb5; obtain ⟨a5, c5, rfl, -, -⟩ := Sl.ofOwn (xs := d ++ [tb]) (by rw [List.map_append]; exact hown5); have HT5 := Lib.hid ((KeptT.app0 (HO4.out.alloc _) hg5).2 _ _ _ _ (row_below HT.out (below_1 _ _)) (by decide)); have HO5 := Lib.hid (show W5.ownsRow w.heap.size 5 1 (.slice a5 (n' + 1) c5) (n' + 1) ((d ++ [tb]).map encB) by rw [List.map_append]; exact hown5); have HB5 := Lib.hid (HB4.out.trans hb5); clear hown5 hg5 hb5)
      clear k0 HO4 HB4 HT
      have k0 := row_cell HT5.out 0 rfl
      have k1 := row_cell HT5.out 1 rfl
      dsimp at k0 k1
      by_cases h7 : tg = 7
      · have e7 : (tg == 7) = true := by simp [h7]
        have hr3 := HROOM.out h7
        have HF := Lib.hid (show e ++ (l.take (j + 1)).flatMap slotB = (d ++ [tb]) ++ z2 [sa] by rw [HF.out, if_pos h7, List.append_assoc])
        have HU := Lib.hid (ru2_lit W5 a5 (n' + 1) c5 (d ++ [tb]) (own_slB HO5.out) 1 [sa] rfl (by decide) (by omega))
        clear h7 HROOM
        go_wp2_with fail
        refine HU.out.mono ?_
        rintro e' W6 ⟨v6, m6, rfl, ho6, hb6⟩
        obtain ⟨a6, c6, rfl, -, -⟩ := Sl.ofOwn ho6
        have HO6 := Lib.hid (own_mono ho6 HB5.out.size)
        have HB6 := Lib.hid (HB5.out.trans (hb6.mono HB5.out.size))
        clear ho6 hb6 HU HO5 HB5 HT5 k0 k1
        go_wp2_with fail
        go_roundg (zn - (j + 1))
        case measure => omega
        case rel => exact ⟨j + 1, a6, m6, c6, by omega, rfl, by go_num, rfl, Lib.hid (by rw [HF.out]; exact HO6.out), HB6⟩
      · have e7 : (tg == 7) = false := by simp [h7]
        have HF := Lib.hid (show e ++ (l.take (j + 1)).flatMap slotB = d ++ [tb] by rw [HF.out, if_neg h7, List.append_nil])
        clear h7 HROOM
        go_wp2_with fail
        go_roundg (zn - (j + 1))
        case measure => omega
        case rel => exact ⟨j + 1, a5, n' + 1, c5, by omega, rfl, by go_num, rfl, Lib.hid (by rw [HF.out]; exact HO5.out), HB5⟩
    · obtain rfl : zn = j := by omega
      have HE := Lib.hid (show l.take zn = l by rw [List.take_of_length_le (by rw [HLn.out]; exact Nat.le_refl _)])
      rw [HE.out] at HO
      go_wp2_with fail
      go_ret
      exact ⟨_, _, rfl, by rw [HR.out]; exact HO.out, HB.out⟩
end Go.Proofs.Ytnfhiakdbakpgaa
