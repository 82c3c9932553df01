/- klass: is a class small enough? No condition. -/
import Derived.Test.YtnfhiakdbakpgaaQ21KlassCuts
namespace Go.Proofs.Ytnfhiakdbakpgaa
open Go.ChangeShapes Go.WideShapes Go.ChangeAt Go.RowKit
def AskB (P : Prop) (w : World) (e : Ending) (w' : World) : Prop := ∃ b : Bool, e = .returned (.bool b) ∧ Below w.heap.size w w' ∧ (b = true → P)
theorem AskB.no {P : Prop} {w w' : World} {e : Ending} (h : e = .returned (.bool false)) (hb : Below w.heap.size w w') : AskB P w e w' := ⟨false, h, hb, fun h => by simp at h⟩
theorem AskB.yes {P : Prop} {w w' : World} {e : Ending} (h : e = .returned (.bool true)) (hb : Below w.heap.size w w') (hp : P) : AskB P w e w' := ⟨true, h, hb, fun _ => hp⟩
theorem take_snocX {α : Type} {l : List α} {j : Nat} {v : α} (h : l[j]? = some v) : l.take (j + 1) = l.take j ++ [v] := by
  obtain ⟨hj, he⟩ := List.getElem?_eq_some_iff.1 h
  rw [List.take_succ_eq_append_getElem hj, he]
theorem all_snoc {α : Type} {p : α → Prop} {L : List α} {j : Nat} {v : α} (h : L[j]? = some v) (h1 : ∀ t ∈ L.take j, p t) (h2 : p v) : ∀ t ∈ L.take (j + 1), p t := by
  rw [take_snocX h]
  intro t ht
  rcases List.mem_append.1 ht with h3 | h3
  · exact h1 t h3
  · rw [List.mem_singleton.1 h3]; exact h2
/-- What memory can hold. -/
structure KF.Big (f : KF) : Prop where
  pn : f.pn ≤ 140737488355328
  fn : f.fn ≤ 140737488355328
  mn : f.mn ≤ 140737488355328
  ps : ∀ c ∈ f.pool, c.s.length ≤ 140737488355328
  each : ∀ m ∈ f.methods, m.cn ≤ 140737488355328 ∧ m.tn ≤ 140737488355328 ∧ m.mn ≤ 140737488355328 ∧ ∀ p ∈ m.maps, p.ln ≤ 140737488355328 ∧ p.sn ≤ 140737488355328
def costP (p : KP) : Nat := 10 + p.ln + p.sn
def costPs (l : List KP) : Nat := (l.map costP).sum
def costM (m : KM) : Nat := m.cn + 10 * m.tn + costPs m.maps
def costMs (l : List KM) : Nat := (l.map costM).sum
theorem costPs_snoc (l : List KP) (p : KP) : costPs (l ++ [p]) = costPs l + (10 + p.ln + p.sn) := by unfold costPs; simp [costP]
theorem costMs_snoc (l : List KM) (m : KM) : costMs (l ++ [m]) = costMs l + (m.cn + 10 * m.tn + costPs m.maps) := by unfold costMs; simp [costM]
def FewF (f : KF) : Prop := f.pn ≤ 120 ∧ f.fn ≤ 70 ∧ f.mn ≤ 70 ∧ (∀ c ∈ f.pool, c.s.length ≤ 300) ∧ costMs f.methods ≤ 4000
set_option maxRecDepth 100000 in
set_option maxHeartbeats 16000000 in
theorem kfew_any (w : World) (f : KF) (h : f.Rd w) (hb : f.Big) :
    Calls Try.prog 8 #[.agg f.vals] w (AskB (FewF f) w) := by
  obtain ⟨P, hP⟩ : ∃ P, P = FewF f := ⟨_, rfl⟩
  rw [← hP]
  have HX := Lib.hid h
  have HBG := Lib.hid hb
  have hpn := hb.pn
  have hfn := hb.fn
  have hmn := hb.mn
  have HLP := Lib.hid h.pool.1
  have HLM := Lib.hid h.methods.1
  have HP := Lib.hid (show P = (f.pn ≤ 120 ∧ f.fn ≤ 70 ∧ f.mn ≤ 70 ∧ (∀ c ∈ f.pool, c.s.length ≤ 300) ∧ costMs f.methods ≤ 4000) from hP)
  clear h hb hP
  obtain ⟨pa, pn, pc, pool, th, su, fa, fn, fc, fields, ma, mn, mc, methods⟩ := f
  unfold KF.vals
  dsimp only at *
  have hal : Below w.heap.size w (w.alloc (.cells #[.slice pa pn pc, .int .i64 th, .int .i64 su, .slice fa fn fc, .slice ma mn mc] 26)) := below_1 _ _
  have HI0 := Lib.hid (heap_alloc_last w (.cells #[.slice pa pn pc, .int .i64 th, .int .i64 su, .slice fa fn fc, .slice ma mn mc] 26))
  have HB0 := Lib.hid hal
  clear hal
  go_enter Try.func8, Try.ntmps8
  go_upto_region 1 with fail
  generalize w.alloc (.cells #[.slice pa pn pc, .int .i64 th, .int .i64 su, .slice fa fn fc, .slice ma mn mc] 26) = W0 at *
  have c0 := row_cell HI0.out 0 rfl
  have c3 := row_cell HI0.out 3 rfl
  have c4 := row_cell HI0.out 4 rfl
  by_cases h1 : 120 < pn
  · have ed : decide ((120 : Int) < pn) = true := by simp; omega
    go_wp2_with fail
    go_ret
    exact AskB.no rfl HB0.out
  have ed : decide ((120 : Int) < pn) = false := by simp; omega
  by_cases h2 : 70 < fn
  · have ed2 : decide ((70 : Int) < fn) = true := by simp; omega
    go_wp2_with fail
    go_ret
    exact AskB.no rfl HB0.out
  have ed2 : decide ((70 : Int) < fn) = false := by simp; omega
  by_cases h3 : 70 < mn
  · have ed3 : decide ((70 : Int) < mn) = true := by simp; omega
    go_wp2_with fail
    go_ret
    exact AskB.no rfl HB0.out
  have ed3 : decide ((70 : Int) < mn) = false := by simp; omega
  go_wp2_with fail
  clear ed ed2 ed3 c0 c3 c4
  go_loopg [29] pn (fun gn i wr => ∃ j : Nat, j ≤ pn ∧ gn = pn - j ∧ i = .int .i64 j ∧ Hid (∀ c ∈ pool.take j, c.s.length ≤ 300) ∧ Hid (Below W0.heap.size W0 wr))
  case atStart => exact ⟨0, by omega, by omega, by go_num, Lib.hid (by simp), Lib.hid (Below.refl _ _)⟩
  case round =>
    obtain ⟨j, hj, rfl, rfl, HA, HB⟩ := hrel
    by_cases hlt : j < pn
    · have HWB := Lib.hid (HB0.out.trans (HB.out.mono HB0.out.size))
      obtain ⟨b, off, c, rfl, hbl, hv, q⟩ := Ss.getC (HX.out.pool.below HWB.out) j hlt
      have HSN := Lib.hid (fun (h : c.s.length ≤ 300) => all_snoc (p := fun c : KV => c.s.length ≤ 300) hv HA.out h)
      obtain ⟨ct, ca, cb, cn, cs⟩ := c
      dsimp only at HSN
      have q0 : wr.cell? ⟨b, off + j * 5, none⟩ = some (.int .i64 ct) := q 0 (by omega)
      have q1 : wr.cell? ⟨b, off + j * 5 + 1, none⟩ = some (.int .i64 ca) := q 1 (by omega)
      have q2 : wr.cell? ⟨b, off + j * 5 + 2, none⟩ = some (.int .i64 cb) := q 2 (by omega)
      have q3 : wr.cell? ⟨b, off + j * 5 + 3, none⟩ = some (.int .i64 cn) := q 3 (by omega)
      have q4 : wr.cell? ⟨b, off + j * 5 + 4, none⟩ = some (.string ⟨cs.toArray⟩) := q 4 (by omega)
      clear q hv hbl
      have hal : Below wr.heap.size wr (wr.alloc (.cells #[.int .i64 ct, .int .i64 ca, .int .i64 cb, .int .i64 cn, .string ⟨cs.toArray⟩] 42)) := below_1 _ _
      have HT := Lib.hid (heap_alloc_last wr (.cells #[.int .i64 ct, .int .i64 ca, .int .i64 cb, .int .i64 cn, .string ⟨cs.toArray⟩] 42))
      have HB2 := Lib.hid (HB.out.trans (hal.mono HB.out.size))
      have HB3 := Lib.hid (HWB.out.trans (hal.mono HWB.out.size))
      go_upto_region 6 with fail
      clear q0 q1 q2 q3 q4 hal HB HWB
      generalize wr.alloc (.cells #[.int .i64 ct, .int .i64 ca, .int .i64 cb, .int .i64 cn, .string ⟨cs.toArray⟩] 42) = W1 at *
      generalize wr.heap.size = bt at *
      have k4 := row_cell HT.out 4 rfl
      by_cases h6 : 300 < cs.length
      · have eh : decide ((300 : Int) < cs.length) = true := by simp; omega
        go_wp2_with fail
        go_ret
        exact AskB.no rfl HB3.out
      · have eh : decide ((300 : Int) < cs.length) = false := by simp; omega
        go_wp2_with fail
        go_roundg (pn - (j + 1))
        case measure => omega
        case rel => exact ⟨j + 1, by omega, rfl, by go_num, Lib.hid (HSN.out (by omega)), HB2⟩
    · obtain rfl : pn = j := by omega
      have HPL := Lib.hid (show ∀ c ∈ pool, c.s.length ≤ 300 by have h := HA.out; rwa [List.take_of_length_le (by rw [HLP.out]; exact Nat.le_refl _)] at h)
      have HI1 := Lib.hid (row_below HI0.out HB.out)
      have HB1 := Lib.hid (HB0.out.trans (HB.out.mono HB0.out.size))
      clear HA HB HI0
      have c4 := row_cell HI1.out 4 rfl
      go_wp2_with fail
      clear c4
      go_loopg [41, 5] mn (fun gn i v wr => ∃ (j : Nat) (T : Int), j ≤ mn ∧ gn = mn - j ∧ i = .int .i64 j ∧ v = .int .i64 T ∧ 0 ≤ T ∧ T ≤ 4000 ∧ Hid (T = 4000 - (costMs (methods.take j) : Nat)) ∧ Hid (Below w.heap.size w wr))
      case atStart => exact ⟨0, 4000, by omega, by omega, by go_num, rfl, by omega, by omega, Lib.hid (by simp [costMs]), HB1⟩
      case round =>
        obtain ⟨j, T, hj, rfl, rfl, rfl, hT1, hT2, HT, HB⟩ := hrel
        by_cases hlt : j < mn
        · obtain ⟨b, off, m, rfl, hbl, hv, q⟩ := Ss.getC (HX.out.methods.below HB.out) j hlt
          have HMR := Lib.hid (HX.out.each m (List.mem_of_getElem? hv))
          have hfm := HBG.out.each m (List.mem_of_getElem? hv)
          have HST := Lib.hid (show costMs (methods.take (j + 1)) = costMs (methods.take j) + (m.cn + 10 * m.tn + costPs m.maps) by rw [take_snocX hv, costMs_snoc])
          obtain ⟨fl, nm, ds, st, lo, ca, cn, cc, code, ta, tn, tc, traps, na, nn, nc, maps⟩ := m
          dsimp only at HST hfm
          obtain ⟨hf1, hf2, hf3, hf4⟩ := hfm
          have HF4 := Lib.hid hf4
          have HML := Lib.hid (show maps.length = nn from HMR.out.maps.1)
          have q0 : wr.cell? ⟨b, off + j * 8, none⟩ = some (.int .i64 fl) := q 0 (by omega)
          have q1 : wr.cell? ⟨b, off + j * 8 + 1, none⟩ = some (.int .i64 nm) := q 1 (by omega)
          have q2 : wr.cell? ⟨b, off + j * 8 + 2, none⟩ = some (.int .i64 ds) := q 2 (by omega)
          have q3 : wr.cell? ⟨b, off + j * 8 + 3, none⟩ = some (.int .i64 st) := q 3 (by omega)
          have q4 : wr.cell? ⟨b, off + j * 8 + 4, none⟩ = some (.int .i64 lo) := q 4 (by omega)
          have q5 : wr.cell? ⟨b, off + j * 8 + 5, none⟩ = some (.slice ca cn cc) := q 5 (by omega)
          have q6 : wr.cell? ⟨b, off + j * 8 + 6, none⟩ = some (.slice ta tn tc) := q 6 (by omega)
          have q7 : wr.cell? ⟨b, off + j * 8 + 7, none⟩ = some (.slice na nn nc) := q 7 (by omega)
          clear q hv hbl hf4
          have hal : Below wr.heap.size wr (wr.alloc (.cells #[.int .i64 fl, .int .i64 nm, .int .i64 ds, .int .i64 st, .int .i64 lo, .slice ca cn cc, .slice ta tn tc, .slice na nn nc] 48)) := below_1 _ _
          have HM := Lib.hid (heap_alloc_last wr (.cells #[.int .i64 fl, .int .i64 nm, .int .i64 ds, .int .i64 st, .int .i64 lo, .slice ca cn cc, .slice ta tn tc, .slice na nn nc] 48))
          have HB3 := Lib.hid (HB.out.trans (hal.mono HB.out.size))
          go_upto_region 13 with fail
          clear q0 q1 q2 q3 q4 q5 q6 q7 hal HB
          generalize wr.alloc (.cells #[.int .i64 fl, .int .i64 nm, .int .i64 ds, .int .i64 st, .int .i64 lo, .slice ca cn cc, .slice ta tn tc, .slice na nn nc] 48) = W3 at *
          generalize wr.heap.size = bt at *
          have k5 := row_cell HM.out 5 rfl
          have k6 := row_cell HM.out 6 rfl
          have k7 := row_cell HM.out 7 rfl
          obtain ⟨T2, hT⟩ : ∃ T2 : Int, T2 = T - cn - 10 * tn := ⟨_, rfl⟩
          have et : T - (cn : Int) - 10 * (tn : Int) = T2 := hT.symm
          have HT2 := Lib.hid hT
          have hb2 : -2251799813685248 ≤ T2 ∧ T2 ≤ 4000 := by omega
          obtain ⟨hb2, hb3⟩ := hb2
          clear hT
          go_wp2_with fail
          clear k5 k6 k7 et
          go_loopg [58, 5] nn (fun gn i v wr => ∃ (k : Nat) (U : Int), k ≤ nn ∧ gn = nn - k ∧ i = .int .i64 k ∧ v = .int .i64 U ∧ -2251799813685248 ≤ U ∧ U ≤ 4000 ∧ Hid (U = T2 - (costPs (maps.take k) : Nat)) ∧ Hid (Below w.heap.size w wr))
          case atStart => exact ⟨0, T2, by omega, by omega, by go_num, rfl, hb2, hb3, Lib.hid (by simp [costPs]), HB3⟩
          case round =>
            obtain ⟨k, U, hk, rfl, rfl, rfl, hU1, hU2, HU, HBk⟩ := hrel
            by_cases hlk : k < nn
            · obtain ⟨b2, off2, p, rfl, hbl, hv, q⟩ := Ss.getC (HMR.out.maps.below HBk.out) k hlk
              have hfp := HF4.out p (List.mem_of_getElem? hv)
              have HSP := Lib.hid (show costPs (maps.take (k + 1)) = costPs (maps.take k) + (10 + p.ln + p.sn) by rw [take_snocX hv, costPs_snoc])
              obtain ⟨pl, la, ln, lc, loc, sa, sn, sc, stk⟩ := p
              dsimp only at HSP hfp
              obtain ⟨hp1, hp2⟩ := hfp
              have q0 : wr.cell? ⟨b2, off2 + k * 3, none⟩ = some (.int .i64 pl) := q 0 (by omega)
              have q1 : wr.cell? ⟨b2, off2 + k * 3 + 1, none⟩ = some (.slice la ln lc) := q 1 (by omega)
              have q2 : wr.cell? ⟨b2, off2 + k * 3 + 2, none⟩ = some (.slice sa sn sc) := q 2 (by omega)
              clear q hv hbl
              have hal : Below wr.heap.size wr (wr.alloc (.cells #[.int .i64 pl, .slice la ln lc, .slice sa sn sc] 51)) := below_1 _ _
              have HP2 := Lib.hid (heap_alloc_last wr (.cells #[.int .i64 pl, .slice la ln lc, .slice sa sn sc] 51))
              have HB4 := Lib.hid (HBk.out.trans (hal.mono HBk.out.size))
              go_upto_region 17 with fail
              clear q0 q1 q2 hal HBk
              generalize wr.alloc (.cells #[.int .i64 pl, .slice la ln lc, .slice sa sn sc] 51) = W4 at *
              generalize wr.heap.size = bp at *
              have k1 := row_cell HP2.out 1 rfl
              have k2 := row_cell HP2.out 2 rfl
              obtain ⟨U2, hUU⟩ : ∃ U2 : Int, U2 = U - 10 - ln - sn := ⟨_, rfl⟩
              have eu : U - 10 - (ln : Int) - (sn : Int) = U2 := hUU.symm
              have HU2 := Lib.hid hUU
              have hb4 : -4503599627370496 ≤ U2 ∧ U2 ≤ 4000 := by omega
              obtain ⟨hb4, hb5⟩ := hb4
              clear hUU
              by_cases hneg : U2 < 0
              · have ed : decide (U2 < 0) = true := by simpa using hneg
                go_wp2_with fail
                go_ret
                exact AskB.no rfl HB4.out
              · have ed : decide (U2 < 0) = false := by simpa using hneg
                go_wp2_with fail
                go_roundg (nn - (k + 1))
                case measure => omega
                case rel => exact ⟨k + 1, U2, by omega, rfl, by go_num, rfl, by omega, hb5, Lib.hid (by rw [HU2.out, HSP.out, HU.out]; omega), HB4⟩
            · obtain rfl : nn = k := by omega
              have HEX := Lib.hid (show maps.take nn = maps by rw [List.take_of_length_le (by rw [HML.out]; exact Nat.le_refl _)])
              rw [HEX.out] at HU
              by_cases hneg : U < 0
              · have ed : decide (U < 0) = true := by simpa using hneg
                go_wp2_with fail
                go_ret
                exact AskB.no rfl HBk.out
              · have ed : decide (U < 0) = false := by simpa using hneg
                go_wp2_with fail
                go_roundg (mn - (j + 1))
                case measure => omega
                case rel => exact ⟨j + 1, U, by omega, rfl, by go_num, rfl, by omega, hU2, Lib.hid (by rw [HU.out, HT2.out, HST.out, HT.out]; omega), HBk⟩
        · obtain rfl : mn = j := by omega
          have HF := Lib.hid (show P by
            rw [HP.out]
            refine ⟨by omega, by omega, by omega, HPL.out, ?_⟩
            have h := HT.out
            rw [List.take_of_length_le (by rw [HLM.out]; exact Nat.le_refl _)] at h
            omega)
          go_wp2_with fail
          go_ret
          exact AskB.yes rfl HB.out HF.out
end Go.Proofs.Ytnfhiakdbakpgaa
/- klass: the document's find, text, class, wide, slots, member. No condition. -/
namespace Go.Proofs.Ytnfhiakdbakpgaa
open Go.ChangeShapes Go.WideShapes Go.ChangeAt Go.RowKit
theorem kAt_of {L : List KV} {j : Nat} {c : KV} (h : L[j]? = some c) : kAt L (j : Int) = c := by
  obtain ⟨hj, he⟩ := List.getElem?_eq_some_iff.1 h
  rw [kAt_get L j hj, he]
theorem FindR.done {w w' : World} {k m : Nat} (h : k = m) (hb : Below w.heap.size w w') : (Ending.returned (.int .i64 (k : Nat)) = .returned (.int .i64 (m : Nat))) ∧ Below w.heap.size w w' := ⟨by rw [h], hb⟩
set_option maxRecDepth 100000 in
set_option maxHeartbeats 8000000 in
theorem rfind_any (w : World) (a : Option Addr) (n cap : Nat) (L : List KV) (s : List UInt8) (hs : Ks w a n L) (hn : n ≤ 65536) :
    Calls Try.prog 46 #[.slice a n cap, .string ⟨s.toArray⟩] w fun e w' => e = .returned (.int .i64 (findT L s)) ∧ Below w.heap.size w w' := by
  obtain ⟨F, hF⟩ : ∃ F, F = findT L s := ⟨_, rfl⟩
  rw [← hF]
  have HF := Lib.hid hF
  have HS := Lib.hid hs
  have HLn := Lib.hid hs.1
  clear hs hF
  go_enter Try.func46, Try.ntmps46
  go_wp2_with fail
  go_loopg [9] n (fun gn i wr => ∃ j : Nat, j ≤ n ∧ gn = n - j ∧ i = .int .i64 j ∧ Hid (∀ k, k < j → isTx s (kAt L k) = false) ∧ Hid (Below w.heap.size w wr))
  case atStart => exact ⟨0, by omega, by omega, by go_num, Lib.hid (fun k hk => absurd hk (Nat.not_lt_zero k)), Lib.hid (Below.refl _ _)⟩
  case round =>
    obtain ⟨j, hj, rfl, rfl, HA, HB⟩ := hrel
    by_cases hlt : j < n
    · obtain ⟨b, off, c, rfl, hbl, hv, q⟩ := Ss.getC (HS.out.below HB.out) j hlt
      have HK := Lib.hid (kAt_of hv)
      have HJ := Lib.hid (show j < L.length by rw [HLn.out]; exact hlt)
      obtain ⟨ct, ca, cb, cn, cs⟩ := c
      have q0 : wr.cell? ⟨b, off + j * 5, none⟩ = some (.int .i64 ct) := q 0 (by omega)
      have q1 : wr.cell? ⟨b, off + j * 5 + 1, none⟩ = some (.int .i64 ca) := q 1 (by omega)
      have q2 : wr.cell? ⟨b, off + j * 5 + 2, none⟩ = some (.int .i64 cb) := q 2 (by omega)
      have q3 : wr.cell? ⟨b, off + j * 5 + 3, none⟩ = some (.int .i64 cn) := q 3 (by omega)
      have q4 : wr.cell? ⟨b, off + j * 5 + 4, none⟩ = some (.string ⟨cs.toArray⟩) := q 4 (by omega)
      clear q hv hbl
      have hal : Below wr.heap.size wr (wr.alloc (.cells #[.int .i64 ct, .int .i64 ca, .int .i64 cb, .int .i64 cn, .string ⟨cs.toArray⟩] 42)) := below_1 _ _
      have HT := Lib.hid (heap_alloc_last wr (.cells #[.int .i64 ct, .int .i64 ca, .int .i64 cb, .int .i64 cn, .string ⟨cs.toArray⟩] 42))
      have HB2 := Lib.hid (HB.out.trans (hal.mono HB.out.size))
      have hj1 : (j : Int) < n := by omega
      go_upto_region 4 with fail
      clear q0 q1 q2 q3 q4 hal HB
      generalize wr.alloc (.cells #[.int .i64 ct, .int .i64 ca, .int .i64 cb, .int .i64 cn, .string ⟨cs.toArray⟩] 42) = W1 at *
      generalize wr.heap.size = bt at *
      have k0 := row_cell HT.out 0 rfl
      have k4 := row_cell HT.out 4 rfl
      by_cases h1 : ct = 1
      · have e1 : (ct == 1) = true := by simp [h1]
        by_cases h2 : cs = s
        · have e2 : (cs == s) = true := by simp [h2]
          have HR := Lib.hid (show j = F by rw [HF.out]; exact (findT_at j HJ.out HA.out (by rw [HK.out]; unfold isTx; simp [h1, h2])).symm)
          clear h1 h2 HF HA
          go_wp2_with fail
          go_ret
          exact FindR.done HR.out HB2.out
        · have e2 : (cs == s) = false := by simp [h2]
          have HN := Lib.hid (show isTx s (kAt L (j : Int)) = false by rw [HK.out]; unfold isTx; simp [h2])
          clear h1 h2
          go_wp2_with fail
          go_roundg (n - (j + 1))
          case measure => omega
          case rel => exact ⟨j + 1, by omega, rfl, by go_num, Lib.hid (fun k hk => by
            by_cases hkj : k < j
            · exact HA.out k hkj
            · obtain rfl : k = j := by omega
              exact HN.out), HB2⟩
      · have e1 : (ct == 1) = false := by simp [h1]
        have HN := Lib.hid (show isTx s (kAt L (j : Int)) = false by rw [HK.out]; unfold isTx; simp [h1])
        clear h1
        go_wp2_with fail
        go_roundg (n - (j + 1))
        case measure => omega
        case rel => exact ⟨j + 1, by omega, rfl, by go_num, Lib.hid (fun k hk => by
          by_cases hkj : k < j
          · exact HA.out k hkj
          · obtain rfl : k = j := by omega
            exact HN.out), HB2⟩
    · obtain rfl : n = j := by omega
      have HR := Lib.hid (show 0 = F by rw [HF.out]; exact (findT_no (fun k hk => HA.out k (by rw [← HLn.out]; exact hk))).symm)
      clear HF HA
      go_wp2_with fail
      go_ret
      exact FindR.done HR.out HB.out
set_option maxRecDepth 100000 in
set_option maxHeartbeats 4000000 in
theorem rtext_any (w : World) (a : Option Addr) (n cap : Nat) (L : List KV) (i : Int) (hs : Ks w a n L) (hn : n ≤ 65536) :
    Calls Try.prog 56 #[.slice a n cap, .int .i64 i] w (BoolRet (isT L i 1) w) := by
  have HC := Lib.hid (refText_any w a n cap L i hs hn)
  clear hs
  go_enter Try.func56, Try.ntmps56
  go_wp2_with fail
  refine HC.out.mono ?_
  rintro e w1 ⟨rfl, rfl⟩
  go_wp2_with fail
  go_ret
  exact ⟨rfl, Below.refl _ _⟩
set_option maxRecDepth 100000 in
set_option maxHeartbeats 4000000 in
theorem rclass_any (w : World) (a : Option Addr) (n cap : Nat) (L : List KV) (i : Int) (hs : Ks w a n L) (hn : n ≤ 65536) :
    Calls Try.prog 24 #[.slice a n cap, .int .i64 i] w (BoolRet (clsOk L i) w) := by
  have HC := Lib.hid (refClass_any w a n cap L i hs hn)
  clear hs
  go_enter Try.func24, Try.ntmps24
  go_wp2_with fail
  refine HC.out.mono ?_
  rintro e w1 ⟨rfl, rfl⟩
  go_wp2_with fail
  go_ret
  exact ⟨rfl, Below.refl _ _⟩
theorem all_in_false {α : Type} {p : α → Bool} {l : List α} {x : α} {j : Nat} (h : l[j]? = some x) (hp : p x = false) : l.all p = false := by
  rw [List.all_eq_false]
  exact ⟨x, List.mem_of_getElem? h, by rw [hp]; decide⟩
theorem all_full {α : Type} {p : α → Bool} {l : List α} {j : Nat} (h : (l.take j).all p = true) (hl : l.length = j) : l.all p = true := by
  rwa [List.take_of_length_le (by omega)] at h
theorem BoolRet.of {r s : Bool} {w w' : World} (h : s = r) (hb : Below w.heap.size w w') : BoolRet r w (.returned (.bool s)) w' := ⟨by rw [h], hb⟩
set_option maxRecDepth 100000 in
set_option maxHeartbeats 8000000 in
theorem rwide_any (w : World) (a : Option Addr) (n cap : Nat) (l : List Int) (hs : Sl encZ w a n l) (hn : n ≤ 1000) :
    Calls Try.prog 57 #[.slice a n cap] w (BoolRet (l.all wideOk) w) := by
  obtain ⟨R, hR⟩ : ∃ R, R = l.all wideOk := ⟨_, rfl⟩
  rw [← hR]
  have HR := Lib.hid hR
  have HS := Lib.hid hs
  have HLn := Lib.hid hs.1
  clear hs hR
  go_enter Try.func57, Try.ntmps57
  go_wp2_with fail
  go_loopg [7] n (fun gn i wr => ∃ j : Nat, j ≤ n ∧ gn = n - j ∧ i = .int .i64 j ∧ Hid ((l.take j).all wideOk = true) ∧ wr = w)
  case atStart => exact ⟨0, by omega, by omega, by go_num, Lib.hid (by simp), rfl⟩
  case round =>
    obtain ⟨j, hj, rfl, rfl, HA, rfl⟩ := hrel
    by_cases hlt : j < n
    · obtain ⟨b, off, x, rfl, _, hv, q0⟩ := HS.out.getZ j hlt
      have HV := Lib.hid hv
      have hj1 : (j : Int) < n := by omega
      clear hv
      by_cases h1 : x < 0
      · have e1 := decide_eq_true h1
        have HF := Lib.hid (show false = R by rw [HR.out]; exact (all_in_false HV.out (by unfold wideOk; simp; omega)).symm)
        clear h1
        go_wp2_with fail
        go_ret
        exact BoolRet.of HF.out (Below.refl _ _)
      · have e1 := decide_eq_false h1
        by_cases h2 : 65535 < x
        · have e2 := decide_eq_true h2
          have HF := Lib.hid (show false = R by rw [HR.out]; exact (all_in_false HV.out (by unfold wideOk; simp; omega)).symm)
          clear h1 h2
          go_wp2_with fail
          go_ret
          exact BoolRet.of HF.out (Below.refl _ _)
        · have e2 := decide_eq_false h2
          have HT := Lib.hid (show (l.take (j + 1)).all wideOk = true by rw [all_take _ _ _ _ HV.out, HA.out]; unfold wideOk; simp; omega)
          clear h1 h2
          go_wp2_with fail
          go_roundg (n - (j + 1))
          case measure => omega
          case rel => exact ⟨j + 1, by omega, rfl, by go_num, HT, rfl⟩
    · obtain rfl : n = j := by omega
      have HF := Lib.hid (show true = R by rw [HR.out]; exact (all_full HA.out HLn.out).symm)
      go_wp2_with fail
      go_ret
      exact BoolRet.of HF.out (Below.refl _ _)
set_option maxRecDepth 100000 in
set_option maxHeartbeats 16000000 in
theorem dslots_any (w : World) (a : Option Addr) (n cap : Nat) (L : List KV) (za : Option Addr) (zn zc : Nat) (l : List KS) (most : Int) (hs : Ks w a n L) (hn : n ≤ 65536) (hz : Ss 2 KS.cells w za zn l) (hzn : zn ≤ 140737488355328) :
    Calls Try.prog 58 #[.slice a n cap, .slice za zn zc, .int .i64 most] w (BoolRet (slotsOk L most l) w) := by
  obtain ⟨R, hR⟩ : ∃ R, R = slotsOk L most l := ⟨_, rfl⟩
  rw [← hR]
  have HRN := Lib.hid (show l.all (slotOk L) = false → false = R from fun h => by rw [hR]; unfold slotsOk; rw [h, Bool.and_false])
  have HRY := Lib.hid (show l.all (slotOk L) = true → decide ((zn : Int) ≤ most) = R from fun h => by rw [hR]; unfold slotsOk; rw [h, Bool.and_true, hz.1])
  have HS := Lib.hid hs
  have HZ := Lib.hid hz
  have HLn := Lib.hid hz.1
  clear hs hR hz
  go_enter Try.func58, Try.ntmps58
  go_wp2_with fail
  go_loopg [11] zn (fun gn i wr => ∃ j : Nat, j ≤ zn ∧ gn = zn - j ∧ i = .int .i64 j ∧ Hid ((l.take j).all (slotOk L) = true) ∧ Hid (Below w.heap.size w wr))
  case atStart => exact ⟨0, by omega, by omega, by go_num, Lib.hid (by simp), Lib.hid (Below.refl _ _)⟩
  case round =>
    obtain ⟨j, hj, rfl, rfl, HA, HB⟩ := hrel
    by_cases hlt : j < zn
    · obtain ⟨b, off, x, rfl, _, hv, q⟩ := Ss.getC (HZ.out.below HB.out) j hlt
      have HN := Lib.hid (fun (h : slotOk L x = false) => HRN.out (all_in_false hv h))
      have HY := Lib.hid (fun (h : slotOk L x = true) => show (l.take (j + 1)).all (slotOk L) = true by rw [all_take _ _ _ _ hv, HA.out, h]; rfl)
      obtain ⟨tg, sa⟩ := x
      have q0 : wr.cell? ⟨b, off + j * 2, none⟩ = some (.int .i64 tg) := q 0 (by omega)
      have q1 : wr.cell? ⟨b, off + j * 2 + 1, none⟩ = some (.int .i64 sa) := q 1 (by omega)
      clear q hv
      have hal : Below wr.heap.size wr (wr.alloc (.cells #[.int .i64 tg, .int .i64 sa] 119)) := below_1 _ _
      have HT := Lib.hid (heap_alloc_last wr (.cells #[.int .i64 tg, .int .i64 sa] 119))
      have HB2 := Lib.hid (HB.out.trans (hal.mono HB.out.size))
      have hj1 : (j : Int) < zn := by omega
      go_upto_region 4 with fail
      clear q0 q1 hal HB
      generalize wr.alloc (.cells #[.int .i64 tg, .int .i64 sa] 119) = W1 at *
      generalize wr.heap.size = bt at *
      have k0 := row_cell HT.out 0 rfl
      have k1 := row_cell HT.out 1 rfl
      have HC := Lib.hid (rclass_any W1 a n cap L sa (HS.out.below HB2.out) hn)
      by_cases h7 : tg = 7
      · subst h7
        have HSO := Lib.hid (show slotOk L ⟨7, sa⟩ = clsOk L sa from rfl)
        rw [HSO.out] at HN HY
        generalize clsOk L sa = ok at *
        go_wp2_with fail
        refine HC.out.mono ?_
        rintro e w2 ⟨rfl, hb⟩
        have HB3 := Lib.hid (HB2.out.trans (hb.mono HB2.out.size))
        clear hb HC
        cases ok with
        | false =>
          have HF := Lib.hid (HN.out rfl)
          go_wp2_with fail
          go_ret
          exact BoolRet.of HF.out HB3.out
        | true =>
          have HF := Lib.hid (HY.out rfl)
          go_wp2_with fail
          go_roundg (zn - (j + 1))
          case measure => omega
          case rel => exact ⟨j + 1, by omega, rfl, by go_num, HF, HB3⟩
      · by_cases ht : tg = 0 ∨ tg = 1 ∨ tg = 4 ∨ tg = 5
        · by_cases h0 : sa = 0
          · subst h0
            have HF := Lib.hid (HY.out (by unfold slotOk; simp [h7, ht]))
            clear HN HY HC h7
            rcases ht with rfl | rfl | rfl | rfl
            · go_wp2_with fail
              go_roundg (zn - (j + 1))
              case measure => omega
              case rel => exact ⟨j + 1, by omega, rfl, by go_num, HF, HB2⟩
            · go_wp2_with fail
              go_roundg (zn - (j + 1))
              case measure => omega
              case rel => exact ⟨j + 1, by omega, rfl, by go_num, HF, HB2⟩
            · go_wp2_with fail
              go_roundg (zn - (j + 1))
              case measure => omega
              case rel => exact ⟨j + 1, by omega, rfl, by go_num, HF, HB2⟩
            · go_wp2_with fail
              go_roundg (zn - (j + 1))
              case measure => omega
              case rel => exact ⟨j + 1, by omega, rfl, by go_num, HF, HB2⟩
          · have e0 : (sa != 0) = true := by simp [h0]
            have HF := Lib.hid (HN.out (by unfold slotOk; simp [h7, h0]))
            clear HN HY HC h7 h0
            rcases ht with rfl | rfl | rfl | rfl
            · go_wp2_with fail
              go_ret
              exact BoolRet.of HF.out HB2.out
            · go_wp2_with fail
              go_ret
              exact BoolRet.of HF.out HB2.out
            · go_wp2_with fail
              go_ret
              exact BoolRet.of HF.out HB2.out
            · go_wp2_with fail
              go_ret
              exact BoolRet.of HF.out HB2.out
        · have HF := Lib.hid (HN.out (by unfold slotOk; simp only [h7, ht, if_false, decide_false, Bool.false_and]))
          have e7 : (tg == 7) = false := by simp [h7]
          have e0 : (tg == 0) = false := by simp; omega
          have e1 : (tg == 1) = false := by simp; omega
          have e4 : (tg == 4) = false := by simp; omega
          have e5 : (tg == 5) = false := by simp; omega
          clear HN HY HC h7 ht
          go_wp2_with fail
          go_ret
          exact BoolRet.of HF.out HB2.out
    · obtain rfl : zn = j := by omega
      have HF := Lib.hid (HRY.out (all_full HA.out HLn.out))
      go_wp2_with fail
      go_ret
      exact BoolRet.of HF.out HB.out
set_option maxRecDepth 100000 in
set_option maxHeartbeats 8000000 in
theorem rmember_any (w : World) (a : Option Addr) (n cap : Nat) (L : List KV) (fl nm ds : Int) (hs : Ks w a n L) (hn : n ≤ 65536) :
    Calls Try.prog 25 #[.slice a n cap, .int .i64 fl, .int .i64 nm, .int .i64 ds] w (BoolRet (membOk L fl nm ds) w) := by
  obtain ⟨R, hR⟩ : ∃ R, R = membOk L fl nm ds := ⟨_, rfl⟩
  rw [← hR]
  unfold membOk at hR
  have H1 := Lib.hid (rtext_any w a n cap L nm hs hn)
  have H2 := Lib.hid (fun w' (hb : Below w.heap.size w w') => rtext_any w' a n cap L ds (hs.below hb) hn)
  generalize isT L nm 1 = t1 at *
  generalize isT L ds 1 = t2 at *
  by_cases h0 : fl = 0 ∨ fl = 8
  case neg =>
    have HF := Lib.hid (show false = R by rw [hR]; simp [h0])
    have e0 : (fl == 0) = false := by simp; omega
    have e8 : (fl == 8) = false := by simp; omega
    clear hs hR h0
    go_enter Try.func25, Try.ntmps25
    go_wp2_with fail
    go_ret
    exact BoolRet.of HF.out (Below.refl _ _)
  have HR := Lib.hid (show R = (t1 && t2) by rw [hR]; simp [h0])
  clear hs hR
  go_enter Try.func25, Try.ntmps25
  cases t1 with
  | false =>
    have HF := Lib.hid (show false = R by rw [HR.out]; rfl)
    rcases h0 with rfl | rfl
    · go_wp2_with fail
      refine H1.out.mono ?_
      rintro e w1 ⟨rfl, hb⟩
      go_wp2_with fail
      go_ret
      exact BoolRet.of HF.out hb
    · go_wp2_with fail
      refine H1.out.mono ?_
      rintro e w1 ⟨rfl, hb⟩
      go_wp2_with fail
      go_ret
      exact BoolRet.of HF.out hb
  | true =>
    have HF := Lib.hid (show t2 = R by rw [HR.out]; rfl)
    rcases h0 with rfl | rfl
    · go_wp2_with fail
      refine H1.out.mono ?_
      rintro e w1 ⟨rfl, hb⟩
      go_wp2_with fail
      refine (H2.out w1 hb).mono ?_
      rintro e w2 ⟨rfl, hb2⟩
      go_wp2_with fail
      go_ret
      exact BoolRet.of HF.out (hb.trans (hb2.mono hb.size))
    · go_wp2_with fail
      refine H1.out.mono ?_
      rintro e w1 ⟨rfl, hb⟩
      go_wp2_with fail
      refine (H2.out w1 hb).mono ?_
      rintro e w2 ⟨rfl, hb2⟩
      go_wp2_with fail
      go_ret
      exact BoolRet.of HF.out (hb.trans (hb2.mono hb.size))
end Go.Proofs.Ytnfhiakdbakpgaa
