/- klass: the document's method and Right (printed by gen/klref2.py). No condition. -/
import Derived.Test.YtnfhiakdbakpgaaQ22KlassCuts
import Derived.Test.YtnfhiakdbakpgaaQ04KlassCuts
import Derived.Test.YtnfhiakdbakpgaaQ05KlassCuts
import Derived.Test.YtnfhiakdbakpgaaQ03KlassCuts
namespace Go.Proofs.Ytnfhiakdbakpgaa
open Go.ChangeShapes Go.WideShapes Go.ChangeAt Go.RowKit
theorem methOk_iff (L : List KV) (m : KM) : methOk L m = true ↔ (membOk L m.fl m.nm m.ds = true ∧ (0 ≤ m.st ∧ m.st ≤ 64 ∧ 0 ≤ m.lo ∧ m.lo ≤ 64) ∧ (0 < m.code.length ∧ m.code.length ≤ 4096 ∧ m.traps.length ≤ 255 ∧ m.maps.length ≤ 255) ∧ m.traps.all (trapOk L) = true ∧ m.maps.all (mapOk L) = true ∧ (0 < findT L sCode ∧ (m.maps.length = 0 ∨ 0 < findT L sMap))) := by
  unfold methOk sizesOk lensOk namesOk
  simp only [Bool.and_eq_true, decide_eq_true_eq]
  constructor
  · rintro ⟨⟨⟨⟨⟨h1, h2⟩, h3⟩, h4⟩, h5⟩, h6⟩
    exact ⟨h1, h2, h3, h4, h5, h6⟩
  · rintro ⟨h1, h2, h3, h4, h5, h6⟩
    exact ⟨⟨⟨⟨⟨h1, h2⟩, h3⟩, h4⟩, h5⟩, h6⟩
/-- What is asked of a method, in numbers. -/
def MethQ (L : List KV) (mb : Bool) (st lo : Int) (cn tn nn : Nat) (ts ms : Bool) : Prop := mb = true ∧ (0 ≤ st ∧ st ≤ 64 ∧ 0 ≤ lo ∧ lo ≤ 64) ∧ (0 < cn ∧ cn ≤ 4096 ∧ tn ≤ 255 ∧ nn ≤ 255) ∧ ts = true ∧ ms = true ∧ (0 < findT L sCode ∧ (nn = 0 ∨ 0 < findT L sMap))
theorem no_of {R : Bool} {P : Prop} (h : R = true ↔ P) (hn : ¬ P) : false = R := by cases R with
  | false => rfl
  | true => exact absurd (h.1 rfl) hn
theorem yes_of {R : Bool} {P : Prop} (h : R = true ↔ P) (hn : P) : true = R := (h.2 hn).symm
set_option maxRecDepth 100000 in
set_option maxHeartbeats 32000000 in
theorem rmethod_any (w : World) (a : Option Addr) (n cap : Nat) (L : List KV) (m : KM) (hs : Ks w a n L) (hn : n ≤ 65536) (hm : m.Rd w) (hc1 : m.cn ≤ 140737488355328) (hc2 : m.tn ≤ 140737488355328) (hc3 : m.mn ≤ 140737488355328) (hc4 : ∀ p ∈ m.maps, p.ln ≤ 140737488355328 ∧ p.sn ≤ 140737488355328) :
    Calls Try.prog 26 #[.slice a n cap, .agg #[.int .i64 m.fl, .int .i64 m.nm, .int .i64 m.ds, .int .i64 m.st, .int .i64 m.lo, .slice m.ca m.cn m.cc, .slice m.ta m.tn m.tc, .slice m.ma m.mn m.mc]] w (BoolRet (methOk L m) w) := by
  obtain ⟨R, hR⟩ : ∃ R, R = methOk L m := ⟨_, rfl⟩
  have hq := methOk_iff L m
  rw [← hR] at hq ⊢
  have hl1 := hm.code.1
  have hl2 := hm.traps.1
  have hl3 := hm.maps.1
  have HQ := Lib.hid (show R = true ↔ MethQ L (membOk L m.fl m.nm m.ds) m.st m.lo m.cn m.tn m.mn (m.traps.all (trapOk L)) (m.maps.all (mapOk L)) by
    rw [hq, hl1, hl2, hl3]; rfl)
  have HS := Lib.hid hs
  have HM := Lib.hid hm
  have HM4 := Lib.hid hc4
  clear hq hR hl1 hl2 hl3 hm hc4 hs
  obtain ⟨fl, nm, ds, st, lo, ca, cn, cc, code, ta, tn, tc, traps, na, nn, nc, maps⟩ := m
  dsimp only at *
  have hal : Below w.heap.size w (w.alloc (.cells #[.int .i64 fl, .int .i64 nm, .int .i64 ds, .int .i64 st, .int .i64 lo, .slice ca cn cc, .slice ta tn tc, .slice na nn nc] 48)) := below_1 _ _
  have HT0 := Lib.hid (heap_alloc_last w (.cells #[.int .i64 fl, .int .i64 nm, .int .i64 ds, .int .i64 st, .int .i64 lo, .slice ca cn cc, .slice ta tn tc, .slice na nn nc] 48))
  have HB0 := Lib.hid hal
  clear hal
  go_enter Try.func26, Try.ntmps26
  go_upto_region 1 with fail
  generalize w.alloc (.cells #[.int .i64 fl, .int .i64 nm, .int .i64 ds, .int .i64 st, .int .i64 lo, .slice ca cn cc, .slice ta tn tc, .slice na nn nc] 48) = W0 at *
  obtain ⟨bm, hbm⟩ : ∃ b, b = w.heap.size := ⟨_, rfl⟩
  rw [← hbm] at HT0 ⊢
  clear hbm
  have HMB := Lib.hid (rmember_any W0 a n cap L fl nm ds (HS.out.below HB0.out) hn)
  generalize membOk L fl nm ds = mb at *
  have k0 := row_cell HT0.out 0 rfl
  have k1 := row_cell HT0.out 1 rfl
  have k2 := row_cell HT0.out 2 rfl
  go_cut [61] (fun r wx => ∃ bad : Bool, r = .bool bad ∧ Hid (bad = true → false = R) ∧ Hid (bad = false → mb = true ∧ (0 ≤ st ∧ st ≤ 64 ∧ 0 ≤ lo ∧ lo ≤ 64) ∧ (0 < cn ∧ cn ≤ 4096 ∧ tn ≤ 255 ∧ nn ≤ 255)) ∧ Hid (Below W0.heap.size W0 wx))
  case first =>
    cases mb with
    | false =>
      have HF1 := Lib.hid (show true = true → false = R from fun _ => no_of HQ.out (fun hq => by have h1 := hq.1; cases h1))
      have HF2 := Lib.hid (show true = false → (false : Bool) = true ∧ (0 ≤ st ∧ st ≤ 64 ∧ 0 ≤ lo ∧ lo ≤ 64) ∧ (0 < cn ∧ cn ≤ 4096 ∧ tn ≤ 255 ∧ nn ≤ 255) from fun h => by cases h)
      clear HQ
      go_wp2_with fail
      refine HMB.out.mono ?_
      rintro e w2 ⟨rfl, hb⟩
      go_wp2_with fail
      go_meet
      exact ⟨true, rfl, Lib.hid (by first | exact HF1.out | simpa using HF1.out | simp), Lib.hid (by first | exact HF2.out | simpa using HF2.out | simp), Lib.hid hb⟩
    | true =>
      by_cases h0 : st < 0
      · have e0 : decide (st < 0) = true := decide_eq_true (by omega)
        have HF1 := Lib.hid (show true = true → false = R from fun _ => no_of HQ.out (fun hq => by have h1 := hq.2.1; have h2 := hq.2.2.1; omega))
        have HF2 := Lib.hid (show true = false → (true : Bool) = true ∧ (0 ≤ st ∧ st ≤ 64 ∧ 0 ≤ lo ∧ lo ≤ 64) ∧ (0 < cn ∧ cn ≤ 4096 ∧ tn ≤ 255 ∧ nn ≤ 255) from fun h => by cases h)
        clear h0
        clear HQ
        go_wp2_with fail
        refine HMB.out.mono ?_
        rintro e w2 ⟨rfl, hb⟩
        have k3 := row_cell (row_below HT0.out hb) 3 rfl
        have k4 := row_cell (row_below HT0.out hb) 4 rfl
        have k5 := row_cell (row_below HT0.out hb) 5 rfl
        have k6 := row_cell (row_below HT0.out hb) 6 rfl
        have k7 := row_cell (row_below HT0.out hb) 7 rfl
        go_wp2_with fail
        go_meet
        exact ⟨true, rfl, Lib.hid (by first | exact HF1.out | simpa using HF1.out | simp), Lib.hid (by first | exact HF2.out | simpa using HF2.out | simp), Lib.hid hb⟩
      · have e0 : decide (st < 0) = false := decide_eq_false (by omega)
        by_cases h1 : 64 < st
        · have e1 : decide ((64 : Int) < st) = true := decide_eq_true (by omega)
          have HF1 := Lib.hid (show true = true → false = R from fun _ => no_of HQ.out (fun hq => by have h1 := hq.2.1; have h2 := hq.2.2.1; omega))
          have HF2 := Lib.hid (show true = false → (true : Bool) = true ∧ (0 ≤ st ∧ st ≤ 64 ∧ 0 ≤ lo ∧ lo ≤ 64) ∧ (0 < cn ∧ cn ≤ 4096 ∧ tn ≤ 255 ∧ nn ≤ 255) from fun h => by cases h)
          clear h0 h1
          clear HQ
          go_wp2_with fail
          refine HMB.out.mono ?_
          rintro e w2 ⟨rfl, hb⟩
          have k3 := row_cell (row_below HT0.out hb) 3 rfl
          have k4 := row_cell (row_below HT0.out hb) 4 rfl
          have k5 := row_cell (row_below HT0.out hb) 5 rfl
          have k6 := row_cell (row_below HT0.out hb) 6 rfl
          have k7 := row_cell (row_below HT0.out hb) 7 rfl
          go_wp2_with fail
          go_meet
          exact ⟨true, rfl, Lib.hid (by first | exact HF1.out | simpa using HF1.out | simp), Lib.hid (by first | exact HF2.out | simpa using HF2.out | simp), Lib.hid hb⟩
        · have e1 : decide ((64 : Int) < st) = false := decide_eq_false (by omega)
          by_cases h2 : lo < 0
          · have e2 : decide (lo < 0) = true := decide_eq_true (by omega)
            have HF1 := Lib.hid (show true = true → false = R from fun _ => no_of HQ.out (fun hq => by have h1 := hq.2.1; have h2 := hq.2.2.1; omega))
            have HF2 := Lib.hid (show true = false → (true : Bool) = true ∧ (0 ≤ st ∧ st ≤ 64 ∧ 0 ≤ lo ∧ lo ≤ 64) ∧ (0 < cn ∧ cn ≤ 4096 ∧ tn ≤ 255 ∧ nn ≤ 255) from fun h => by cases h)
            clear h0 h1 h2
            clear HQ
            go_wp2_with fail
            refine HMB.out.mono ?_
            rintro e w2 ⟨rfl, hb⟩
            have k3 := row_cell (row_below HT0.out hb) 3 rfl
            have k4 := row_cell (row_below HT0.out hb) 4 rfl
            have k5 := row_cell (row_below HT0.out hb) 5 rfl
            have k6 := row_cell (row_below HT0.out hb) 6 rfl
            have k7 := row_cell (row_below HT0.out hb) 7 rfl
            go_wp2_with fail
            go_meet
            exact ⟨true, rfl, Lib.hid (by first | exact HF1.out | simpa using HF1.out | simp), Lib.hid (by first | exact HF2.out | simpa using HF2.out | simp), Lib.hid hb⟩
          · have e2 : decide (lo < 0) = false := decide_eq_false (by omega)
            by_cases h3 : 64 < lo
            · have e3 : decide ((64 : Int) < lo) = true := decide_eq_true (by omega)
              have HF1 := Lib.hid (show true = true → false = R from fun _ => no_of HQ.out (fun hq => by have h1 := hq.2.1; have h2 := hq.2.2.1; omega))
              have HF2 := Lib.hid (show true = false → (true : Bool) = true ∧ (0 ≤ st ∧ st ≤ 64 ∧ 0 ≤ lo ∧ lo ≤ 64) ∧ (0 < cn ∧ cn ≤ 4096 ∧ tn ≤ 255 ∧ nn ≤ 255) from fun h => by cases h)
              clear h0 h1 h2 h3
              clear HQ
              go_wp2_with fail
              refine HMB.out.mono ?_
              rintro e w2 ⟨rfl, hb⟩
              have k3 := row_cell (row_below HT0.out hb) 3 rfl
              have k4 := row_cell (row_below HT0.out hb) 4 rfl
              have k5 := row_cell (row_below HT0.out hb) 5 rfl
              have k6 := row_cell (row_below HT0.out hb) 6 rfl
              have k7 := row_cell (row_below HT0.out hb) 7 rfl
              go_wp2_with fail
              go_meet
              exact ⟨true, rfl, Lib.hid (by first | exact HF1.out | simpa using HF1.out | simp), Lib.hid (by first | exact HF2.out | simpa using HF2.out | simp), Lib.hid hb⟩
            · have e3 : decide ((64 : Int) < lo) = false := decide_eq_false (by omega)
              by_cases h4 : cn < 1
              · have e4 : decide ((cn : Int) < 1) = true := decide_eq_true (by omega)
                have HF1 := Lib.hid (show true = true → false = R from fun _ => no_of HQ.out (fun hq => by have h1 := hq.2.1; have h2 := hq.2.2.1; omega))
                have HF2 := Lib.hid (show true = false → (true : Bool) = true ∧ (0 ≤ st ∧ st ≤ 64 ∧ 0 ≤ lo ∧ lo ≤ 64) ∧ (0 < cn ∧ cn ≤ 4096 ∧ tn ≤ 255 ∧ nn ≤ 255) from fun h => by cases h)
                clear h0 h1 h2 h3 h4
                clear HQ
                go_wp2_with fail
                refine HMB.out.mono ?_
                rintro e w2 ⟨rfl, hb⟩
                have k3 := row_cell (row_below HT0.out hb) 3 rfl
                have k4 := row_cell (row_below HT0.out hb) 4 rfl
                have k5 := row_cell (row_below HT0.out hb) 5 rfl
                have k6 := row_cell (row_below HT0.out hb) 6 rfl
                have k7 := row_cell (row_below HT0.out hb) 7 rfl
                go_wp2_with fail
                go_meet
                exact ⟨true, rfl, Lib.hid (by first | exact HF1.out | simpa using HF1.out | simp), Lib.hid (by first | exact HF2.out | simpa using HF2.out | simp), Lib.hid hb⟩
              · have e4 : decide ((cn : Int) < 1) = false := decide_eq_false (by omega)
                by_cases h5 : 4096 < cn
                · have e5 : decide ((4096 : Int) < cn) = true := decide_eq_true (by omega)
                  have HF1 := Lib.hid (show true = true → false = R from fun _ => no_of HQ.out (fun hq => by have h1 := hq.2.1; have h2 := hq.2.2.1; omega))
                  have HF2 := Lib.hid (show true = false → (true : Bool) = true ∧ (0 ≤ st ∧ st ≤ 64 ∧ 0 ≤ lo ∧ lo ≤ 64) ∧ (0 < cn ∧ cn ≤ 4096 ∧ tn ≤ 255 ∧ nn ≤ 255) from fun h => by cases h)
                  clear h0 h1 h2 h3 h4 h5
                  clear HQ
                  go_wp2_with fail
                  refine HMB.out.mono ?_
                  rintro e w2 ⟨rfl, hb⟩
                  have k3 := row_cell (row_below HT0.out hb) 3 rfl
                  have k4 := row_cell (row_below HT0.out hb) 4 rfl
                  have k5 := row_cell (row_below HT0.out hb) 5 rfl
                  have k6 := row_cell (row_below HT0.out hb) 6 rfl
                  have k7 := row_cell (row_below HT0.out hb) 7 rfl
                  go_wp2_with fail
                  go_meet
                  exact ⟨true, rfl, Lib.hid (by first | exact HF1.out | simpa using HF1.out | simp), Lib.hid (by first | exact HF2.out | simpa using HF2.out | simp), Lib.hid hb⟩
                · have e5 : decide ((4096 : Int) < cn) = false := decide_eq_false (by omega)
                  by_cases h6 : 255 < tn
                  · have e6 : decide ((255 : Int) < tn) = true := decide_eq_true (by omega)
                    have HF1 := Lib.hid (show true = true → false = R from fun _ => no_of HQ.out (fun hq => by have h1 := hq.2.1; have h2 := hq.2.2.1; omega))
                    have HF2 := Lib.hid (show true = false → (true : Bool) = true ∧ (0 ≤ st ∧ st ≤ 64 ∧ 0 ≤ lo ∧ lo ≤ 64) ∧ (0 < cn ∧ cn ≤ 4096 ∧ tn ≤ 255 ∧ nn ≤ 255) from fun h => by cases h)
                    clear h0 h1 h2 h3 h4 h5 h6
                    clear HQ
                    go_wp2_with fail
                    refine HMB.out.mono ?_
                    rintro e w2 ⟨rfl, hb⟩
                    have k3 := row_cell (row_below HT0.out hb) 3 rfl
                    have k4 := row_cell (row_below HT0.out hb) 4 rfl
                    have k5 := row_cell (row_below HT0.out hb) 5 rfl
                    have k6 := row_cell (row_below HT0.out hb) 6 rfl
                    have k7 := row_cell (row_below HT0.out hb) 7 rfl
                    go_wp2_with fail
                    go_meet
                    exact ⟨true, rfl, Lib.hid (by first | exact HF1.out | simpa using HF1.out | simp), Lib.hid (by first | exact HF2.out | simpa using HF2.out | simp), Lib.hid hb⟩
                  · have e6 : decide ((255 : Int) < tn) = false := decide_eq_false (by omega)
                    by_cases h7 : 255 < nn
                    · have e7 : decide ((255 : Int) < nn) = true := decide_eq_true (by omega)
                      have HF1 := Lib.hid (show true = true → false = R from fun _ => no_of HQ.out (fun hq => by have h1 := hq.2.1; have h2 := hq.2.2.1; omega))
                      have HF2 := Lib.hid (show true = false → (true : Bool) = true ∧ (0 ≤ st ∧ st ≤ 64 ∧ 0 ≤ lo ∧ lo ≤ 64) ∧ (0 < cn ∧ cn ≤ 4096 ∧ tn ≤ 255 ∧ nn ≤ 255) from fun h => by cases h)
                      clear h0 h1 h2 h3 h4 h5 h6 h7
                      clear HQ
                      go_wp2_with fail
                      refine HMB.out.mono ?_
                      rintro e w2 ⟨rfl, hb⟩
                      have k3 := row_cell (row_below HT0.out hb) 3 rfl
                      have k4 := row_cell (row_below HT0.out hb) 4 rfl
                      have k5 := row_cell (row_below HT0.out hb) 5 rfl
                      have k6 := row_cell (row_below HT0.out hb) 6 rfl
                      have k7 := row_cell (row_below HT0.out hb) 7 rfl
                      go_wp2_with fail
                      go_meet
                      exact ⟨true, rfl, Lib.hid (by first | exact HF1.out | simpa using HF1.out | simp), Lib.hid (by first | exact HF2.out | simpa using HF2.out | simp), Lib.hid hb⟩
                    · have e7 : decide ((255 : Int) < nn) = false := decide_eq_false (by omega)
                      have HF1 := Lib.hid (show false = true → false = R from fun h => by cases h)
                      have HF2 := Lib.hid (show false = false → (true : Bool) = true ∧ (0 ≤ st ∧ st ≤ 64 ∧ 0 ≤ lo ∧ lo ≤ 64) ∧ (0 < cn ∧ cn ≤ 4096 ∧ tn ≤ 255 ∧ nn ≤ 255) from fun _ => ⟨rfl, ⟨by omega, by omega, by omega, by omega⟩, by omega, by omega, by omega, by omega⟩)
                      clear h0 h1 h2 h3 h4 h5 h6 h7
                      clear HQ
                      go_wp2_with fail
                      refine HMB.out.mono ?_
                      rintro e w2 ⟨rfl, hb⟩
                      have k3 := row_cell (row_below HT0.out hb) 3 rfl
                      have k4 := row_cell (row_below HT0.out hb) 4 rfl
                      have k5 := row_cell (row_below HT0.out hb) 5 rfl
                      have k6 := row_cell (row_below HT0.out hb) 6 rfl
                      have k7 := row_cell (row_below HT0.out hb) 7 rfl
                      go_wp2_with fail
                      go_meet
                      exact ⟨false, rfl, Lib.hid (by first | exact HF1.out | simpa using HF1.out | simp), Lib.hid (by first | exact HF2.out | simpa using HF2.out | simp), Lib.hid hb⟩
  case rest =>
    obtain ⟨bad, rfl, HBAD, HGOOD, HB⟩ := hcut
    have HB1 := Lib.hid (HB0.out.trans (HB.out.mono HB0.out.size))
    have HT1 := Lib.hid (row_below HT0.out HB.out)
    clear k0 k1 k2 HMB HB HB0 HT0
    have k6 := row_cell HT1.out 6 rfl
    cases bad with
    | true =>
      have HF := Lib.hid (HBAD.out rfl)
      go_wp2_with fail
      go_ret
      exact BoolRet.of HF.out HB1.out
    | false =>
    have HGD := Lib.hid (HGOOD.out rfl)
    clear HBAD HGOOD
    go_wp2_with fail
    clear k6
    go_loopg [65] tn (fun gn i wr => ∃ j : Nat, j ≤ tn ∧ gn = tn - j ∧ i = .int .i64 j ∧ Hid ((traps.take j).all (trapOk L) = true) ∧ Hid (Below w.heap.size w wr) ∧ Hid (wr.heap[bm]? = some (.cells #[.int .i64 fl, .int .i64 nm, .int .i64 ds, .int .i64 st, .int .i64 lo, .slice ca cn cc, .slice ta tn tc, .slice na nn nc] 48)))
    case atStart => exact ⟨0, by omega, by omega, by go_num, Lib.hid (by simp), HB1, HT1⟩
    case round =>
      clear HB1 HT1
      obtain ⟨j, hj, rfl, rfl, HA, HB, HT⟩ := hrel
      by_cases hlt : j < tn
      · obtain ⟨b, off, x, rfl, _, hv, q⟩ := Ss.getC (HM.out.traps.below HB.out) j hlt
        have HN := Lib.hid (fun (h : trapOk L x = false) => show false = R from no_of HQ.out (fun hq => by have h2 := hq.2.2.2.1; rw [all_in_false hv h] at h2; cases h2))
        have HY := Lib.hid (fun (h : trapOk L x = true) => show (traps.take (j + 1)).all (trapOk L) = true by rw [all_take _ _ _ _ hv, HA.out, h]; rfl)
        obtain ⟨fr, tt, pl, cl⟩ := x
        have HTO := Lib.hid (show trapOk L ⟨fr, tt, pl, cl⟩ = ([fr, tt, pl].all wideOk && (decide (cl = 0) || clsOk L cl)) from rfl)
        have q0 : wr.cell? ⟨b, off + j * 4, none⟩ = some (.int .i64 fr) := q 0 (by omega)
        have q1 : wr.cell? ⟨b, off + j * 4 + 1, none⟩ = some (.int .i64 tt) := q 1 (by omega)
        have q2 : wr.cell? ⟨b, off + j * 4 + 2, none⟩ = some (.int .i64 pl) := q 2 (by omega)
        have q3 : wr.cell? ⟨b, off + j * 4 + 3, none⟩ = some (.int .i64 cl) := q 3 (by omega)
        clear q hv
        have hal : Below wr.heap.size wr (wr.alloc (.cells #[.int .i64 fr, .int .i64 tt, .int .i64 pl, .int .i64 cl] 98)) := below_1 _ _
        have HX := Lib.hid (heap_alloc_last wr (.cells #[.int .i64 fr, .int .i64 tt, .int .i64 pl, .int .i64 cl] 98))
        have HB2 := Lib.hid (HB.out.trans (hal.mono HB.out.size))
        have HT2 := Lib.hid (row_below HT.out hal)
        have hj1 : (j : Int) < tn := by omega
        go_upto_region 6 with fail
        clear q0 q1 q2 q3 hal HB HT
        generalize wr.alloc (.cells #[.int .i64 fr, .int .i64 tt, .int .i64 pl, .int .i64 cl] 98) = W1 at *
        generalize wr.heap.size = bt at *
        have k0 := row_cell HX.out 0 rfl
        have k1 := row_cell HX.out 1 rfl
        have k2 := row_cell HX.out 2 rfl
        have k3 := row_cell HX.out 3 rfl
        have hb3 : Below W1.heap.size W1 (W1.alloc (.cells #[.int .i64 fr, .int .i64 tt, .int .i64 pl] 3)) := below_1 _ _
        have HWD := Lib.hid (rwide_any (W1.alloc (.cells #[.int .i64 fr, .int .i64 tt, .int .i64 pl] 3)) _ 3 3 [fr, tt, pl] (Sl.litZ W1 3 [fr, tt, pl] 3 rfl) (by decide))
        generalize [fr, tt, pl].all wideOk = wd at *
        cases wd with
        | false =>
          have HF := Lib.hid (HN.out (by rw [HTO.out]; rfl))
          go_wp2_with fail
          refine HWD.out.mono ?_
          rintro e w2 ⟨rfl, hb⟩
          have HB3 := Lib.hid (HB2.out.trans ((hb3.trans (hb.mono hb3.size)).mono HB2.out.size))
          go_wp2_with fail
          go_ret
          exact BoolRet.of HF.out HB3.out
        | true =>
          rw [Bool.true_and] at HTO
          by_cases h0 : cl = 0
          · have e0 : (cl != 0) = false := by simp [h0]
            have HF := Lib.hid (HY.out (by rw [HTO.out]; simp [h0]))
            clear h0 HN HY HTO
            go_wp2_with fail
            refine HWD.out.mono ?_
            rintro e w2 ⟨rfl, hb⟩
            have hb4 := hb3.trans (hb.mono hb3.size)
            have HB3 := Lib.hid (HB2.out.trans (hb4.mono HB2.out.size))
            have HT3 := Lib.hid (row_below HT2.out hb4)
            have k3 := row_cell (row_below HX.out hb4) 3 rfl
            clear k0 k1 k2 hb hb3 hb4
            go_wp2_with fail
            go_roundg (tn - (j + 1))
            case measure => omega
            case rel => exact ⟨j + 1, by omega, rfl, by go_num, HF, HB3, HT3⟩
          · have e0 : (cl != 0) = true := by simp [h0]
            have HTO := Lib.hid (show trapOk L ⟨fr, tt, pl, cl⟩ = clsOk L cl by rw [HTO.out]; simp [h0])
            rw [HTO.out] at HN HY
            clear h0 HTO
            go_wp2_with fail
            refine HWD.out.mono ?_
            rintro e w2 ⟨rfl, hb⟩
            have hb4 := hb3.trans (hb.mono hb3.size)
            have HB3 := Lib.hid (HB2.out.trans (hb4.mono HB2.out.size))
            have HT3 := Lib.hid (row_below HT2.out hb4)
            have k3 := row_cell (row_below HX.out hb4) 3 rfl
            have HC := Lib.hid (rclass_any w2 a n cap L cl (HS.out.below HB3.out) hn)
            generalize clsOk L cl = ok at *
            clear k0 k1 k2 hb hb3 hb4
            go_wp2_with fail
            refine HC.out.mono ?_
            rintro e w3 ⟨rfl, hb⟩
            have HB5 := Lib.hid (HB3.out.trans (hb.mono HB3.out.size))
            have HT5 := Lib.hid (row_below HT3.out hb)
            clear hb HC HB3 HT3
            cases ok with
            | false =>
              have HF := Lib.hid (HN.out rfl)
              go_wp2_with fail
              go_ret
              exact BoolRet.of HF.out HB5.out
            | true =>
              have HF := Lib.hid (HY.out rfl)
              go_wp2_with fail
              go_roundg (tn - (j + 1))
              case measure => omega
              case rel => exact ⟨j + 1, by omega, rfl, by go_num, HF, HB5, HT5⟩
      · obtain rfl : tn = j := by omega
        have HTA := Lib.hid (show traps.all (trapOk L) = true from all_full HA.out HM.out.traps.1)
        clear HA
        have k7 := row_cell HT.out 7 rfl
        go_wp2_with fail
        clear k7
        go_loopg [94] nn (fun gn i wr => ∃ j : Nat, j ≤ nn ∧ gn = nn - j ∧ i = .int .i64 j ∧ Hid ((maps.take j).all (mapOk L) = true) ∧ Hid (Below w.heap.size w wr) ∧ Hid (wr.heap[bm]? = some (.cells #[.int .i64 fl, .int .i64 nm, .int .i64 ds, .int .i64 st, .int .i64 lo, .slice ca cn cc, .slice ta tn tc, .slice na nn nc] 48)))
        case atStart => exact ⟨0, by omega, by omega, by go_num, Lib.hid (by simp), HB, HT⟩
        case round =>
          clear HB HT
          obtain ⟨j, hj, rfl, rfl, HA, HB, HT⟩ := hrel
          by_cases hlt : j < nn
          · obtain ⟨b, off, x, rfl, _, hv, q⟩ := Ss.getC (HM.out.maps.below HB.out) j hlt
            have HN := Lib.hid (fun (h : mapOk L x = false) => show false = R from no_of HQ.out (fun hq => by have h2 := hq.2.2.2.2.1; rw [all_in_false hv h] at h2; cases h2))
            have HY := Lib.hid (fun (h : mapOk L x = true) => show (maps.take (j + 1)).all (mapOk L) = true by rw [all_take _ _ _ _ hv, HA.out, h]; rfl)
            have HXR := Lib.hid (HM.out.each x (List.mem_of_getElem? hv))
            have hx4 := HM4.out x (List.mem_of_getElem? hv)
            obtain ⟨pl, la, ln, lc, loc, sa, sn, sc, stk⟩ := x
            dsimp only at hx4
            obtain ⟨hx5, hx6⟩ := hx4
            have HMO := Lib.hid (show mapOk L ⟨pl, la, ln, lc, loc, sa, sn, sc, stk⟩ = ((wideOk pl && slotsOk L 64 loc) && slotsOk L 64 stk) from rfl)
            have q0 : wr.cell? ⟨b, off + j * 3, none⟩ = some (.int .i64 pl) := q 0 (by omega)
            have q1 : wr.cell? ⟨b, off + j * 3 + 1, none⟩ = some (.slice la ln lc) := q 1 (by omega)
            have q2 : wr.cell? ⟨b, off + j * 3 + 2, none⟩ = some (.slice sa sn sc) := q 2 (by omega)
            clear q hv
            have hal : Below wr.heap.size wr (wr.alloc (.cells #[.int .i64 pl, .slice la ln lc, .slice sa sn sc] 51)) := below_1 _ _
            have HX := Lib.hid (heap_alloc_last wr (.cells #[.int .i64 pl, .slice la ln lc, .slice sa sn sc] 51))
            have HB2 := Lib.hid (HB.out.trans (hal.mono HB.out.size))
            have HT2 := Lib.hid (row_below HT.out hal)
            have hj1 : (j : Int) < nn := by omega
            go_upto_region 12 with fail
            clear q0 q1 q2 hal HB HT
            generalize wr.alloc (.cells #[.int .i64 pl, .slice la ln lc, .slice sa sn sc] 51) = W1 at *
            generalize wr.heap.size = bt at *
            have k0 := row_cell HX.out 0 rfl
            have hb3 : Below W1.heap.size W1 (W1.alloc (.cells #[.int .i64 pl] 3)) := below_1 _ _
            have HWD := rwide_any (W1.alloc (.cells #[.int .i64 pl] 3)) _ 1 1 [pl] (Sl.litZ W1 1 [pl] 3 rfl) (by decide)
            rw [show [pl].all wideOk = wideOk pl by simp] at HWD
            replace HWD := Lib.hid HWD
            have HL1 := Lib.hid (fun w' (hb : Below w.heap.size w w') => dslots_any w' a n cap L la ln lc loc 64 (HS.out.below hb) hn (HXR.out.loc.below hb) hx5)
            have HL2 := Lib.hid (fun w' (hb : Below w.heap.size w w') => dslots_any w' a n cap L sa sn sc stk 64 (HS.out.below hb) hn (HXR.out.stk.below hb) hx6)
            rw [HMO.out] at HN HY
            clear HMO
            generalize wideOk pl = wd at *
            generalize slotsOk L 64 loc = s1 at *
            generalize slotsOk L 64 stk = s2 at *
            cases wd with
            | false =>
              have HF := Lib.hid (HN.out rfl)
              go_wp2_with fail
              refine HWD.out.mono ?_
              rintro e w2 ⟨rfl, hb⟩
              have HB3 := Lib.hid (HB2.out.trans ((hb3.trans (hb.mono hb3.size)).mono HB2.out.size))
              go_wp2_with fail
              go_ret
              exact BoolRet.of HF.out HB3.out
            | true =>
              go_wp2_with fail
              refine HWD.out.mono ?_
              rintro e w2 ⟨rfl, hb⟩
              have hb4 := hb3.trans (hb.mono hb3.size)
              have HB3 := Lib.hid (HB2.out.trans (hb4.mono HB2.out.size))
              have HT3 := Lib.hid (row_below HT2.out hb4)
              have HX3 := Lib.hid (row_below HX.out hb4)
              have k1 := row_cell HX3.out 1 rfl
              clear k0 hb hb3 hb4 HX HT2 HB2 HWD
              go_wp2_with fail
              refine (HL1.out w2 HB3.out).mono ?_
              rintro e w3 ⟨rfl, hb⟩
              have HB4 := Lib.hid (HB3.out.trans (hb.mono HB3.out.size))
              have HT4 := Lib.hid (row_below HT3.out hb)
              have HX4 := Lib.hid (row_below HX3.out hb)
              clear hb k1 HB3 HT3 HX3 HL1
              have k2 := row_cell HX4.out 2 rfl
              cases s1 with
              | false =>
                have HF := Lib.hid (HN.out rfl)
                go_wp2_with fail
                go_ret
                exact BoolRet.of HF.out HB4.out
              | true =>
                go_wp2_with fail
                refine (HL2.out w3 HB4.out).mono ?_
                rintro e w4 ⟨rfl, hb⟩
                have HB5 := Lib.hid (HB4.out.trans (hb.mono HB4.out.size))
                have HT5 := Lib.hid (row_below HT4.out hb)
                clear hb k2 HB4 HT4 HX4 HL2
                cases s2 with
                | false =>
                  have HF := Lib.hid (HN.out rfl)
                  go_wp2_with fail
                  go_ret
                  exact BoolRet.of HF.out HB5.out
                | true =>
                  have HF := Lib.hid (HY.out rfl)
                  go_wp2_with fail
                  go_roundg (nn - (j + 1))
                  case measure => omega
                  case rel => exact ⟨j + 1, by omega, rfl, by go_num, HF, HB5, HT5⟩
          · obtain rfl : nn = j := by omega
            have HMA := Lib.hid (show maps.all (mapOk L) = true from all_full HA.out HM.out.maps.1)
            clear HA
            have HC1 := Lib.hid (rfind_any wr a n cap L sCode (HS.out.below HB.out) hn)
            have HC2 := Lib.hid (fun w' (hb : Below w.heap.size w w') => rfind_any w' a n cap L sMap (HS.out.below hb) hn)
            unfold MethQ at HQ
            generalize findT L sCode = f1 at *
            generalize findT L sMap = f2 at *
            unfold sCode at HC1
            unfold sMap at HC2
            have k7 := row_cell HT.out 7 rfl
            by_cases h1 : 0 < f1
            · have e1 : decide ((0 : Int) < (f1 : Int)) = true := by simp; omega
              by_cases h2 : nn = 0
              · have e2 : ((nn : Int) == 0) = true := by simp [h2]
                have HF := Lib.hid (yes_of HQ.out ⟨HGD.out.1, HGD.out.2.1, HGD.out.2.2, HTA.out, HMA.out, h1, .inl h2⟩)
                clear h2
                go_wp2_with fail
                refine HC1.out.mono ?_
                rintro e w2 ⟨rfl, hb⟩
                have k7 := row_cell (row_below HT.out hb) 7 rfl
                go_wp2_with fail
                go_ret
                exact BoolRet.of HF.out (HB.out.trans (hb.mono HB.out.size))
              · have e2 : ((nn : Int) == 0) = false := by simp [h2]
                go_wp2_with fail
                refine HC1.out.mono ?_
                rintro e w2 ⟨rfl, hb⟩
                have HB3 := Lib.hid (HB.out.trans (hb.mono HB.out.size))
                have k7 := row_cell (row_below HT.out hb) 7 rfl
                go_wp2_with fail
                refine (HC2.out w2 HB3.out).mono ?_
                rintro e w3 ⟨rfl, hb⟩
                have HB4 := Lib.hid (HB3.out.trans (hb.mono HB3.out.size))
                by_cases h3 : 0 < f2
                · have HF := Lib.hid (yes_of HQ.out ⟨HGD.out.1, HGD.out.2.1, HGD.out.2.2, HTA.out, HMA.out, h1, .inr h3⟩)
                  have e3 : decide ((0 : Int) < (f2 : Int)) = true := by simp; omega
                  go_wp2_with fail
                  go_ret
                  exact BoolRet.of HF.out HB4.out
                · have HF := Lib.hid (no_of HQ.out (fun hq => by have h4 := hq.2.2.2.2.2.2; omega))
                  have e3 : decide ((0 : Int) < (f2 : Int)) = false := by simp; omega
                  go_wp2_with fail
                  go_ret
                  exact BoolRet.of HF.out HB4.out
            · have e1 : decide ((0 : Int) < (f1 : Int)) = false := by simp; omega
              have HF := Lib.hid (no_of HQ.out (fun hq => by have h4 := hq.2.2.2.2.2.1; omega))
              go_wp2_with fail
              refine HC1.out.mono ?_
              rintro e w2 ⟨rfl, hb⟩
              go_wp2_with fail
              go_ret
              exact BoolRet.of HF.out (HB.out.trans (hb.mono HB.out.size))
end Go.Proofs.Ytnfhiakdbakpgaa
/- pool: few, and Bytes of a pool that may not be. No condition. -/
namespace Go.Proofs.Ytnfhiakdbakpgaa
open Go.ChangeShapes Go.WideShapes Go.ChangeAt Go.RowKit
/-- Are there few places, and short texts? -/
def fewB (L : List KV) : Bool := (List.range L.length).all (fun (k : Nat) => decide ((kAt L k).s.length ≤ 2000)) && (decide (L.length ≤ 60) || (decide (1024 < L.length) && decide (L.length < 1029)))
theorem fewB_parts {L : List KV} (h : fewB L = true) : (∀ k : Nat, k < L.length → (kAt L k).s.length ≤ 2000) ∧ L.length < 1029 ∧ (L.length ≤ 1024 → L.length ≤ 60) := by
  unfold fewB at h
  simp at h
  refine ⟨h.1, by omega, by omega⟩
theorem fewB_bad {L : List KV} (j : Nat) (hj : j < L.length) (h : 2000 < (kAt L j).s.length) : fewB L = false := by
  unfold fewB
  have : (List.range L.length).all (fun (k : Nat) => decide ((kAt L k).s.length ≤ 2000)) = false := by
    rw [List.all_eq_false]
    exact ⟨j, by simpa using hj, by simp; omega⟩
  rw [this]; rfl
theorem fewB_good {L : List KV} (h : ∀ k : Nat, k < L.length → (kAt L k).s.length ≤ 2000) : fewB L = (decide (L.length ≤ 60) || (decide (1024 < L.length) && decide (L.length < 1029))) := by
  unfold fewB
  have : (List.range L.length).all (fun (k : Nat) => decide ((kAt L k).s.length ≤ 2000)) = true := by
    simp; exact h
  rw [this]; rfl
end Go.Proofs.Ytnfhiakdbakpgaa
/- pool: the law's fixed calls. No condition. -/
namespace Go.Proofs.Ytnfhiakdbakpgaa
open Go.ChangeShapes Go.WideShapes Go.ChangeAt Go.RowKit
theorem Ss.lit {α : Type} {z : Nat} {enc : α → List Value} (hz : ∀ x, (enc x).length = z) {w : World} {g n : Nat} {xs : List α} {C : Array Value} {e : TypeId} {fr : Nat × Nat} (hg : w.heap[g]? = some (.cells C e fr)) (hC : C = (xs.flatMap enc).toArray) (hn : xs.length = n) : Ss z enc w (some ⟨g, 0, none⟩) n xs := by
  subst hC
  refine ⟨hn, fun _ => ⟨g, 0, rfl, (Array.getElem?_eq_some_iff.1 hg).1, fun i hi j hj => ?_⟩⟩
  rw [cell_of_row w g (0 + i * z + j) _ e fr hg, Nat.zero_add]
  simp only [List.getElem?_toArray]
  exact flat_at hz xs i hi j hj
/-- The pool of the fixed calls. -/
def fixL : List KV := [⟨0, 0, 0, 0, []⟩, ⟨1, 0, 0, 0, [97]⟩, ⟨7, 1, 0, 0, []⟩]
theorem fixL_ok : poolOk fixL = true := by decide
theorem fixL_bytes : bytesK fixL = [0, 3, 1, 0, 1, 97, 7, 0, 1] := by decide
theorem fixL_class : (classAt fixL 2) = ([97], true) := by decide
theorem fixL_text : isT fixL 0 1 = false := by decide
end Go.Proofs.Ytnfhiakdbakpgaa
/- utf: the reference's Plain, Same, Decode. No condition. -/
namespace Go.Proofs.Ytnfhiakdbakpgaa
open Go.ChangeShapes Go.WideShapes Go.ChangeAt Go.RowKit
attribute [local go_sem ↓] Go.wp_at_zero Go.wp_at_succ

theorem any_take {p : UInt8 → Bool} {bs : List UInt8} (h : ∀ j (h' : j < bs.length), p bs[j] = false) : bs.any p = false := by
  rw [List.any_eq_false]
  intro x hx
  obtain ⟨j, hj, rfl⟩ := List.mem_iff_getElem.1 hx
  simp [h j hj]

theorem same_list {us vs : List UInt16} (hl : us.length = vs.length) (h : ∀ j (h1 : j < us.length) (h2 : j < vs.length), us[j] = vs[j]) : decide (us = vs) = true := by
  simp only [decide_eq_true_eq]
  exact List.ext_getElem hl (fun i h1 h2 => h i h1 h2)

end Go.Proofs.Ytnfhiakdbakpgaa
