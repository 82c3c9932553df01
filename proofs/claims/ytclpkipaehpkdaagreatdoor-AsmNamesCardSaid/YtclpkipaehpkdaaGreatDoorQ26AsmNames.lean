/- asm: own texts, merged (wip/merge2.py). No condition. -/
import Derived.Test.YtclpkipaehpkdaaGreatDoorQ25AsmNames
import Derived.Deep.DeepCutAuto
set_option linter.unusedVariables false
set_option linter.unusedSimpArgs false
namespace Go.Proofs.YtclpkipaehpkdaaGreatDoor
open Go.ChangeShapes Go.WideShapes Go.ChangeAt Go.RowKit
theorem Keep1.blk {g b : Nat} {w w' : World} {o : Obj} (k : Keep1 g w w') (h : w.heap[b]? = some o) (hne : b ≠ g) : w'.heap[b]? = some o := by
  rw [k.block b (Array.getElem?_eq_some_iff.1 h).1 hne]; exact h
def MBk (w : World) (b : Nat) (fl nm ds st lo : Int) (ca : Option Addr) (cn cc : Nat) (ta : Option Addr) (tn tc : Nat) (ma : Option Addr) (mn mc : Nat) : Prop := w.heap[b]? = some (.cells #[.int .i64 fl, .int .i64 nm, .int .i64 ds, .int .i64 st, .int .i64 lo, .slice ca cn cc, .slice ta tn tc, .slice ma mn mc] 65)
structure MBox (w : World) (b : Nat) (fl nm ds st lo : Int) (ca : Option Addr) (cn cc : Nat) (ta : Option Addr) (tn tc : Nat) (ma : Option Addr) (mn mc : Nat) : Prop where
  c0 : w.cell? ⟨b, 0, none⟩ = some (.int .i64 fl)
  c1 : w.cell? ⟨b, 1, none⟩ = some (.int .i64 nm)
  c2 : w.cell? ⟨b, 2, none⟩ = some (.int .i64 ds)
  c3 : w.cell? ⟨b, 3, none⟩ = some (.int .i64 st)
  c4 : w.cell? ⟨b, 4, none⟩ = some (.int .i64 lo)
  c5 : w.cell? ⟨b, 5, none⟩ = some (.slice ca cn cc)
  c6 : w.cell? ⟨b, 6, none⟩ = some (.slice ta tn tc)
  c7 : w.cell? ⟨b, 7, none⟩ = some (.slice ma mn mc)
section
variable {w w' : World} {g b : Nat} {fl nm ds st lo : Int} {ca : Option Addr} {cn cc : Nat} {ta : Option Addr} {tn tc : Nat} {ma : Option Addr} {mn mc : Nat}
theorem MBk.box (h : MBk w b fl nm ds st lo ca cn cc ta tn tc ma mn mc) : MBox w b fl nm ds st lo ca cn cc ta tn tc ma mn mc :=
  ⟨row_cell h 0 rfl, row_cell h 1 rfl, row_cell h 2 rfl, row_cell h 3 rfl, row_cell h 4 rfl, row_cell h 5 rfl, row_cell h 6 rfl, row_cell h 7 rfl⟩
theorem MBk.keep1 (h : MBk w b fl nm ds st lo ca cn cc ta tn tc ma mn mc) (k : Keep1 g w w') (hne : b ≠ g) : MBk w' b fl nm ds st lo ca cn cc ta tn tc ma mn mc := k.blk h hne
end
theorem sizes_all (m : KM) : sizesOk m = ((decide (0 ≤ m.st) && decide (m.st ≤ 64)) && decide (0 ≤ m.lo) && decide (m.lo ≤ 64)) := by
  unfold sizesOk
  by_cases h1 : 0 ≤ m.st <;> by_cases h2 : m.st ≤ 64 <;> by_cases h3 : 0 ≤ m.lo <;> by_cases h4 : m.lo ≤ 64 <;> simp [h1, h2, h3, h4]
theorem lens_all (m : KM) (h1 : m.code.length = m.cn) (h2 : m.traps.length = m.tn) (h3 : m.maps.length = m.mn) : lensOk m = ((decide (0 < m.cn) && decide ((m.cn : Int) ≤ 4096)) && decide ((m.tn : Int) ≤ 255) && decide ((m.mn : Int) ≤ 255)) := by
  unfold lensOk
  rw [h1, h2, h3, ← Bool.decide_and, ← Bool.decide_and, ← Bool.decide_and]
  exact decide_eq_decide.2 (by omega)
theorem meth_chain (L : List KV) (m : KM) (odd : Bool) : (odd || !methOk L m) = (((((odd || !membOk L m.fl m.nm m.ds) || !sizesOk m) || !lensOk m) || !m.traps.all (trapOk L)) || !m.maps.all (mapOk L) || !namesOk L m) := by
  unfold methOk
  rw [odd_next, odd_next, odd_next, odd_next, odd_next]
set_option maxRecDepth 100000 in
set_option maxHeartbeats 16000000 in
theorem lmethod_any (W0 w : World) (g : Nat) (a : Option Addr) (n cap : Nat) (L : List KV) (odd : Bool) (m : KM) (h : LkS w g a n cap L odd) (hm : m.Rd W0) (hb : Below W0.heap.size W0 w) (hg : W0.heap.size ≤ g) (hf : IntR m.fl) (hc : m.cn ≤ maxLen) (ht : m.tn ≤ 1000000000000) (hp : m.mn ≤ 1000000000000) (hq : ∀ p ∈ m.maps, p.ln ≤ 1000000000 ∧ p.sn ≤ 1000000000) :
    Calls Tryz.prog 47 #[.pointer (some ⟨g, 0, none⟩), .agg #[.int .i64 m.fl, .int .i64 m.nm, .int .i64 m.ds, .int .i64 m.st, .int .i64 m.lo, .slice m.ca m.cn m.cc, .slice m.ta m.tn m.tc, .slice m.ma m.mn m.mc]] w (LkRet g a n cap L (odd || !methOk L m) w) := by
  have HFIN := Lib.hid (meth_chain L m odd)
  rw [HFIN.out]
  obtain ⟨fl, nm, ds, st, lo, ca, cn, cc, code, ta, tn, tc, traps, ma, mn, mc, maps⟩ := m
  dsimp only at hf hc ht hp hq ⊢
  have HSZ := Lib.hid (sizes_all (⟨fl, nm, ds, st, lo, ca, cn, cc, code, ta, tn, tc, traps, ma, mn, mc, maps⟩ : KM))
  have HLE := Lib.hid (lens_all (⟨fl, nm, ds, st, lo, ca, cn, cc, code, ta, tn, tc, traps, ma, mn, mc, maps⟩ : KM) hm.code.1 hm.traps.1 hm.maps.1)
  dsimp only at HSZ HLE
  have HT := Lib.hid (show Ss 4 KT.cells W0 ta tn traps from hm.traps)
  have HP := Lib.hid (show Ss 3 KP.cells W0 ma mn maps from hm.maps)
  have HE := Lib.hid (show ∀ p ∈ maps, p.Rd W0 from hm.each)
  have HTn := Lib.hid (show traps.length = tn from hm.traps.1)
  have HPn := Lib.hid (show maps.length = mn from hm.maps.1)
  have HNM := Lib.hid (show namesOk L (⟨fl, nm, ds, st, lo, ca, cn, cc, code, ta, tn, tc, traps, ma, mn, mc, maps⟩ : KM) = (decide ((0 : Int) < (findT L sCode : Int)) && (((mn : Int) == 0) || decide ((0 : Int) < (findT L sMap : Int)))) from by
    have hl : maps.length = mn := hm.maps.1
    unfold namesOk
    dsimp only
    rw [hl]
    by_cases h1 : 0 < findT L sCode <;> by_cases h2 : mn = 0 <;> by_cases h3 : 0 < findT L sMap <;> simp [h1, h2, h3])
  generalize sizesOk (⟨fl, nm, ds, st, lo, ca, cn, cc, code, ta, tn, tc, traps, ma, mn, mc, maps⟩ : KM) = szB at *
  generalize lensOk (⟨fl, nm, ds, st, lo, ca, cn, cc, code, ta, tn, tc, traps, ma, mn, mc, maps⟩ : KM) = leB at *
  generalize namesOk L (⟨fl, nm, ds, st, lo, ca, cn, cc, code, ta, tn, tc, traps, ma, mn, mc, maps⟩ : KM) = nmB at *
  have hal : Below w.heap.size w (w.alloc (.cells #[.int .i64 fl, .int .i64 nm, .int .i64 ds, .int .i64 st, .int .i64 lo, .slice ca cn cc, .slice ta tn tc, .slice ma mn mc] 65)) := below_1 _ _
  have HB1 := Lib.hid (show MBk (w.alloc (.cells #[.int .i64 fl, .int .i64 nm, .int .i64 ds, .int .i64 st, .int .i64 lo, .slice ca cn cc, .slice ta tn tc, .slice ma mn mc] 65)) w.heap.size fl nm ds st lo ca cn cc ta tn tc ma mn mc from heap_alloc_last w _)
  have H1 := Lib.hid (h.below hal)
  have HK1 := Lib.hid (Keep1.of (g := g) hal)
  have HW := Lib.hid hb
  have HQ := Lib.hid hq
  have HWg := Lib.hid hg
  have hbg : w.heap.size ≠ g := by have := h.lt; omega
  have HF := Lib.hid hf
  have HFA := Lib.hid (fun w' (hl : Ks w' a n L) => find_any w' a n cap L sCode hl h.sm)
  have HFB := Lib.hid (fun w' (hl : Ks w' a n L) => find_any w' a n cap L sMap hl h.sm)
  unfold sCode at HFA
  unfold sMap at HFB
  clear h hm hb hal hq hf hg HFIN
  go_enter Tryz.func47, Tryz.ntmps47
  go_upto_region 1 with fail
  generalize w.alloc (.cells #[.int .i64 fl, .int .i64 nm, .int .i64 ds, .int .i64 st, .int .i64 lo, .slice ca cn cc, .slice ta tn tc, .slice ma mn mc] 65) = W1 at *
  generalize w.heap.size = bm at *
  obtain ⟨c0, c1, c2, c3, c4, c5, c6, c7⟩ := HB1.out.box
  go_wp2_with fail
  refine (lmember_any W1 g a n cap L odd fl nm ds H1.out HF.out).mono ?_
  rintro e w2 ⟨rfl, h2, k2⟩
  have HL := Lib.hid h2
  have HB2 := Lib.hid (HB1.out.keep1 k2 hbg)
  have HK2 := Lib.hid (HK1.out.trans k2)
  generalize membOk L fl nm ds = mbB at *
  clear h2 k2 c0 c1 c2 c3 c4 c5 c6 c7 H1 HB1 HK1
  obtain ⟨c0, c1, c2, c3, c4, c5, c6, c7⟩ := HB2.out.box
  go_upto_region 2 with fail
  go_cut [35] (fun r wx => Hid (LkS wx g a n cap L ((odd || !mbB) || !szB)) ∧ Hid (MBk wx bm fl nm ds st lo ca cn cc ta tn tc ma mn mc) ∧ Hid (Keep1 g w wx))
  case first =>
    by_cases h0 : 0 ≤ st
    · have e0 := decide_eq_true h0
      clear h0
      by_cases h1 : st ≤ 64
      · have e1 := decide_eq_true h1
        clear h1
        by_cases h2 : 0 ≤ lo
        · have e2 := decide_eq_true h2
          clear h2
          by_cases h3 : lo ≤ 64
          · have e3 := decide_eq_true h3
            clear h3
            go_wp2_with fail
            refine (need_any _ g a n cap L _ true HL.out).mono ?_
            rintro e w3 ⟨rfl, h3, k3⟩
            go_wp2_with fail
            go_meet
            refine ⟨Lib.hid ?_, Lib.hid (HB2.out.keep1 k3 hbg), Lib.hid (HK2.out.trans k3)⟩
            rw [show szB = true by rw [HSZ.out]; simp only [e0, e1, e2, e3, Bool.and_true, Bool.and_self, Bool.true_and]]; exact h3
          · have e3 := decide_eq_false h3
            clear h3
            go_wp2_with fail
            refine (need_any _ g a n cap L _ false HL.out).mono ?_
            rintro e w3 ⟨rfl, h3, k3⟩
            go_wp2_with fail
            go_meet
            refine ⟨Lib.hid ?_, Lib.hid (HB2.out.keep1 k3 hbg), Lib.hid (HK2.out.trans k3)⟩
            rw [show szB = false by rw [HSZ.out]; simp only [e0, e1, e2, e3, Bool.and_false, Bool.false_and, Bool.and_true, Bool.true_and]]; exact h3
        · have e2 := decide_eq_false h2
          clear h2
          go_wp2_with fail
          refine (need_any _ g a n cap L _ false HL.out).mono ?_
          rintro e w3 ⟨rfl, h3, k3⟩
          go_wp2_with fail
          go_meet
          refine ⟨Lib.hid ?_, Lib.hid (HB2.out.keep1 k3 hbg), Lib.hid (HK2.out.trans k3)⟩
          rw [show szB = false by rw [HSZ.out]; simp only [e0, e1, e2, Bool.and_false, Bool.false_and, Bool.and_true, Bool.true_and]]; exact h3
      · have e1 := decide_eq_false h1
        clear h1
        go_wp2_with fail
        refine (need_any _ g a n cap L _ false HL.out).mono ?_
        rintro e w3 ⟨rfl, h3, k3⟩
        go_wp2_with fail
        go_meet
        refine ⟨Lib.hid ?_, Lib.hid (HB2.out.keep1 k3 hbg), Lib.hid (HK2.out.trans k3)⟩
        rw [show szB = false by rw [HSZ.out]; simp only [e0, e1, Bool.and_false, Bool.false_and, Bool.and_true, Bool.true_and]]; exact h3
    · have e0 := decide_eq_false h0
      clear h0
      go_wp2_with fail
      refine (need_any _ g a n cap L _ false HL.out).mono ?_
      rintro e w3 ⟨rfl, h3, k3⟩
      go_wp2_with fail
      go_meet
      refine ⟨Lib.hid ?_, Lib.hid (HB2.out.keep1 k3 hbg), Lib.hid (HK2.out.trans k3)⟩
      rw [show szB = false by rw [HSZ.out]; simp only [e0, Bool.and_false, Bool.false_and, Bool.and_true, Bool.true_and]]; exact h3
  case rest =>
    clear c0 c1 c2 c3 c4 c5 c6 c7 HL HB2 HK2
    obtain ⟨HL, HB2, HK2⟩ := hcut
    generalize ((odd || !mbB) || !szB) = od2 at *
    obtain ⟨c0, c1, c2, c3, c4, c5, c6, c7⟩ := HB2.out.box
    go_upto_region 3 with fail
    go_cut [59] (fun r wx => Hid (LkS wx g a n cap L (od2 || !leB)) ∧ Hid (MBk wx bm fl nm ds st lo ca cn cc ta tn tc ma mn mc) ∧ Hid (Keep1 g w wx))
    case first =>
      by_cases h0 : 0 < cn
      · have e0 := decide_eq_true h0
        clear h0
        by_cases h1 : (cn : Int) ≤ 4096
        · have e1 := decide_eq_true h1
          clear h1
          by_cases h2 : (tn : Int) ≤ 255
          · have e2 := decide_eq_true h2
            clear h2
            by_cases h3 : (mn : Int) ≤ 255
            · have e3 := decide_eq_true h3
              clear h3
              go_wp2_with fail
              refine (need_any _ g a n cap L _ true HL.out).mono ?_
              rintro e w3 ⟨rfl, h3, k3⟩
              go_wp2_with fail
              go_meet
              refine ⟨Lib.hid ?_, Lib.hid (HB2.out.keep1 k3 hbg), Lib.hid (HK2.out.trans k3)⟩
              rw [show leB = true by rw [HLE.out]; simp only [e0, e1, e2, e3, Bool.and_true, Bool.and_self, Bool.true_and]]; exact h3
            · have e3 := decide_eq_false h3
              clear h3
              go_wp2_with fail
              refine (need_any _ g a n cap L _ false HL.out).mono ?_
              rintro e w3 ⟨rfl, h3, k3⟩
              go_wp2_with fail
              go_meet
              refine ⟨Lib.hid ?_, Lib.hid (HB2.out.keep1 k3 hbg), Lib.hid (HK2.out.trans k3)⟩
              rw [show leB = false by rw [HLE.out]; simp only [e0, e1, e2, e3, Bool.and_false, Bool.false_and, Bool.and_true, Bool.true_and]]; exact h3
          · have e2 := decide_eq_false h2
            clear h2
            go_wp2_with fail
            refine (need_any _ g a n cap L _ false HL.out).mono ?_
            rintro e w3 ⟨rfl, h3, k3⟩
            go_wp2_with fail
            go_meet
            refine ⟨Lib.hid ?_, Lib.hid (HB2.out.keep1 k3 hbg), Lib.hid (HK2.out.trans k3)⟩
            rw [show leB = false by rw [HLE.out]; simp only [e0, e1, e2, Bool.and_false, Bool.false_and, Bool.and_true, Bool.true_and]]; exact h3
        · have e1 := decide_eq_false h1
          clear h1
          go_wp2_with fail
          refine (need_any _ g a n cap L _ false HL.out).mono ?_
          rintro e w3 ⟨rfl, h3, k3⟩
          go_wp2_with fail
          go_meet
          refine ⟨Lib.hid ?_, Lib.hid (HB2.out.keep1 k3 hbg), Lib.hid (HK2.out.trans k3)⟩
          rw [show leB = false by rw [HLE.out]; simp only [e0, e1, Bool.and_false, Bool.false_and, Bool.and_true, Bool.true_and]]; exact h3
      · have e0 := decide_eq_false h0
        clear h0
        go_wp2_with fail
        refine (need_any _ g a n cap L _ false HL.out).mono ?_
        rintro e w3 ⟨rfl, h3, k3⟩
        go_wp2_with fail
        go_meet
        refine ⟨Lib.hid ?_, Lib.hid (HB2.out.keep1 k3 hbg), Lib.hid (HK2.out.trans k3)⟩
        rw [show leB = false by rw [HLE.out]; simp only [e0, Bool.and_false, Bool.false_and, Bool.and_true, Bool.true_and]]; exact h3
    case rest =>
      clear c0 c1 c2 c3 c4 c5 c6 c7 HL HB2 HK2
      obtain ⟨HL, HB2, HK2⟩ := hcut
      generalize (od2 || !leB) = od3 at *
      obtain ⟨c0, c1, c2, c3, c4, c5, c6, c7⟩ := HB2.out.box
      go_wp2_with fail
      clear c0 c1 c2 c3 c4 c5 c6 c7
      go_loopg [63] tn (fun gn i wr => ∃ j : Nat, j ≤ tn ∧ gn = tn - j ∧ i = .int .i64 j ∧ Hid (LkS wr g a n cap L (od3 || !(traps.take j).all (trapOk L))) ∧ Hid (MBk wr bm fl nm ds st lo ca cn cc ta tn tc ma mn mc) ∧ Hid (Keep1 g w wr))
      case atStart => exact ⟨0, by omega, by omega, by go_num, Lib.hid (by simpa using HL.out), HB2, HK2⟩
      case round =>
        clear HL HB2 HK2
        obtain ⟨j, hj, rfl, rfl, HL, HB2, HK2⟩ := hrel
        by_cases hlt : j < tn
        · obtain ⟨b, off, t, rfl, _, hv, q⟩ := (HT.out.below (HK2.out.below HW.out (Nat.le_refl _) HWg.out)).getC j hlt
          have HA := Lib.hid (show (od3 || !(traps.take (j + 1)).all (trapOk L)) = (((od3 || !(traps.take j).all (trapOk L)) || ![t.fr, t.tt, t.pl].all wideOk) || !(decide (t.cl = 0) || clsOk L t.cl)) by rw [all_take _ _ _ _ hv, odd_next]; unfold trapOk; rw [odd_next])
          obtain ⟨fr, tt, pl, cl⟩ := t
          dsimp only at HA
          have q0 : wr.cell? ⟨b, off + j * 4, none⟩ = some (.int .i64 fr) := q 0 (by omega)
          have q1 : wr.cell? ⟨b, off + j * 4 + 1, none⟩ = some (.int .i64 tt) := q 1 (by omega)
          have q2 : wr.cell? ⟨b, off + j * 4 + 2, none⟩ = some (.int .i64 pl) := q 2 (by omega)
          have q3 : wr.cell? ⟨b, off + j * 4 + 3, none⟩ = some (.int .i64 cl) := q 3 (by omega)
          clear q hv
          generalize (od3 || !(traps.take j).all (trapOk L)) = od at *
          have hj1 : (j : Int) < tn := by omega
          have hb : Below wr.heap.size wr (wr.alloc (.cells #[.int .i64 fr, .int .i64 tt, .int .i64 pl, .int .i64 cl] 123)) := below_1 _ _
          have HL4 := Lib.hid (HL.out.below hb)
          have HB4 := Lib.hid (HB2.out.keep1 (Keep1.of hb) hbg)
          have HK4 := Lib.hid (HK2.out.trans (Keep1.of hb))
          have HT4 := Lib.hid (heap_alloc_last wr (.cells #[.int .i64 fr, .int .i64 tt, .int .i64 pl, .int .i64 cl] 123))
          have htg : wr.heap.size ≠ g := by have := HL.out.lt; omega
          clear hb HL HB2 HK2
          go_upto_region 7 with fail
          clear q0 q1 q2 q3
          generalize wr.alloc (.cells #[.int .i64 fr, .int .i64 tt, .int .i64 pl, .int .i64 cl] 123) = W4 at *
          generalize wr.heap.size = bt at *
          have p0 := row_cell HT4.out 0 rfl
          have p1 := row_cell HT4.out 1 rfl
          have p2 := row_cell HT4.out 2 rfl
          dsimp at p0 p1 p2
          go_wp2_with fail
          have hb5 : Below W4.heap.size W4 (W4.alloc (.cells #[.int .i64 fr, .int .i64 tt, .int .i64 pl] 3)) := below_1 _ _
          refine (wide_any _ g a n cap L _ _ 3 3 [fr, tt, pl] (HL4.out.below hb5) (Sl.litZ W4 3 [fr, tt, pl] 3 rfl) (Off1.new (Ne.symm (Nat.ne_of_lt HL4.out.lt)).symm) (by decide)).mono ?_
          rintro e w6 ⟨rfl, h6, k6⟩
          have hk6 := (Keep1.of (g := g) hb5).trans k6
          have HL6 := Lib.hid h6
          have HB6 := Lib.hid (HB4.out.keep1 hk6 hbg)
          have HK6 := Lib.hid (HK4.out.trans hk6)
          have HT6 := Lib.hid (hk6.blk HT4.out htg)
          clear h6 k6 hk6 hb5 HL4 HB4 HK4 HT4 p0 p1 p2
          have p3 := row_cell HT6.out 3 rfl
          dsimp at p3
          by_cases h0 : cl = 0
          · have e0 : (cl != 0) = false := by simp [h0]
            have HF2 := Lib.hid (show (decide (cl = 0) || clsOk L cl) = true by simp [h0])
            clear h0
            go_wp2_with fail
            go_roundg (tn - (j + 1))
            case measure => omega
            case rel => exact ⟨j + 1, by omega, rfl, by go_num, Lib.hid (by rw [HA.out, HF2.out, Bool.not_true, Bool.or_false]; exact HL6.out), HB6, HK6⟩
          · have e0 : (cl != 0) = true := by simp [h0]
            have HF2 := Lib.hid (show (decide (cl = 0) || clsOk L cl) = clsOk L cl by simp [h0])
            clear h0
            go_wp2_with fail
            refine (lclass_any w6 g a n cap L _ cl HL6.out).mono ?_
            rintro e w7 ⟨rfl, h7, k7⟩
            go_wp2_with fail
            go_roundg (tn - (j + 1))
            case measure => omega
            case rel => exact ⟨j + 1, by omega, rfl, by go_num, Lib.hid (by rw [HA.out, HF2.out]; exact h7), Lib.hid (HB6.out.keep1 k7 hbg), Lib.hid (HK6.out.trans k7)⟩
        · obtain rfl : j = tn := by omega
          have HEX := Lib.hid (show traps.take j = traps by rw [List.take_of_length_le (by rw [HTn.out]; exact Nat.le_refl _)])
          rw [HEX.out] at HL
          generalize (od3 || !traps.all (trapOk L)) = od4 at *
          obtain ⟨c0, c1, c2, c3, c4, c5, c6, c7⟩ := HB2.out.box
          go_wp2_with fail
          clear c0 c1 c2 c3 c4 c5 c6 c7
          go_loopg [87] mn (fun gn iv wr => ∃ i : Nat, i ≤ mn ∧ gn = mn - i ∧ iv = .int .i64 i ∧ Hid (LkS wr g a n cap L (od4 || !(maps.take i).all (mapOk L))) ∧ Hid (MBk wr bm fl nm ds st lo ca cn cc ta j tc ma mn mc) ∧ Hid (Keep1 g w wr))
          case atStart => exact ⟨0, by omega, by omega, by go_num, Lib.hid (by simpa using HL.out), HB2, HK2⟩
          case round =>
            clear HL HB2 HK2
            obtain ⟨i, hi, rfl, rfl, HL, HB2, HK2⟩ := hrel
            by_cases hli : i < mn
            · obtain ⟨b, off, p, rfl, _, hv, q⟩ := (HP.out.below (HK2.out.below HW.out (Nat.le_refl _) HWg.out)).getC i hli
              have HA := Lib.hid (show (od4 || !(maps.take (i + 1)).all (mapOk L)) = ((((od4 || !(maps.take i).all (mapOk L)) || ![p.pl].all wideOk) || !slotsOk L 64 p.loc) || !slotsOk L 64 p.stk) by rw [all_take _ _ _ _ hv, odd_next]; unfold mapOk; rw [odd_next, odd_next]; simp)
              have HR := Lib.hid (HE.out p (List.mem_of_getElem? hv))
              have hpq := HQ.out p (List.mem_of_getElem? hv)
              obtain ⟨pl, la, ln, lc, loc, sa, sn, sc, stk⟩ := p
              dsimp only at HA hpq
              obtain ⟨hpl, hps⟩ := hpq
              have HRL := Lib.hid (show Ss 2 KS.cells W0 la ln loc from HR.out.loc)
              have HRS := Lib.hid (show Ss 2 KS.cells W0 sa sn stk from HR.out.stk)
              have q0 : wr.cell? ⟨b, off + i * 3, none⟩ = some (.int .i64 pl) := q 0 (by omega)
              have q1 : wr.cell? ⟨b, off + i * 3 + 1, none⟩ = some (.slice la ln lc) := q 1 (by omega)
              have q2 : wr.cell? ⟨b, off + i * 3 + 2, none⟩ = some (.slice sa sn sc) := q 2 (by omega)
              clear q hv HR
              generalize (od4 || !(maps.take i).all (mapOk L)) = od at *
              have hi1 : (i : Int) < mn := by omega
              have hb : Below wr.heap.size wr (wr.alloc (.cells #[.int .i64 pl, .slice la ln lc, .slice sa sn sc] 68)) := below_1 _ _
              have HL4 := Lib.hid (HL.out.below hb)
              have HB4 := Lib.hid (HB2.out.keep1 (Keep1.of hb) hbg)
              have HK4 := Lib.hid (HK2.out.trans (Keep1.of hb))
              have HT4 := Lib.hid (heap_alloc_last wr (.cells #[.int .i64 pl, .slice la ln lc, .slice sa sn sc] 68))
              have htg : wr.heap.size ≠ g := by have := HL.out.lt; omega
              clear hb HL HB2 HK2
              go_upto_region 14 with fail
              clear q0 q1 q2
              generalize wr.alloc (.cells #[.int .i64 pl, .slice la ln lc, .slice sa sn sc] 68) = W4 at *
              generalize wr.heap.size = bt at *
              have p0 := row_cell HT4.out 0 rfl
              dsimp at p0
              go_wp2_with fail
              have hb5 : Below W4.heap.size W4 (W4.alloc (.cells #[.int .i64 pl] 3)) := below_1 _ _
              refine (wide_any _ g a n cap L _ _ 1 1 [pl] (HL4.out.below hb5) (Sl.litZ W4 1 [pl] 3 rfl) (Off1.new (Ne.symm (Nat.ne_of_lt HL4.out.lt)).symm) (by decide)).mono ?_
              rintro e w6 ⟨rfl, h6, k6⟩
              have hk6 := (Keep1.of (g := g) hb5).trans k6
              have HL6 := Lib.hid h6
              have HB6 := Lib.hid (HB4.out.keep1 hk6 hbg)
              have HK6 := Lib.hid (HK4.out.trans hk6)
              have HT6 := Lib.hid (hk6.blk HT4.out htg)
              clear h6 k6 hk6 hb5 HL4 HB4 HK4 HT4 p0
              have p1 := row_cell HT6.out 1 rfl
              dsimp at p1
              have HW6 := Lib.hid (HK6.out.below HW.out (Nat.le_refl _) HWg.out)
              go_wp2_with fail
              refine (lslots_any w6 g a n cap L _ la ln lc loc 64 HL6.out (HRL.out.below HW6.out) (Off1.oldS HRL.out HWg.out) hpl).mono ?_
              rintro e w7 ⟨rfl, h7, k7⟩
              have HL7 := Lib.hid h7
              have HB7 := Lib.hid (HB6.out.keep1 k7 hbg)
              have HK7 := Lib.hid (HK6.out.trans k7)
              have HT7 := Lib.hid (k7.blk HT6.out htg)
              clear h7 k7 HL6 HB6 HK6 HT6 HW6 p1
              have p2 := row_cell HT7.out 2 rfl
              dsimp at p2
              have HW7 := Lib.hid (HK7.out.below HW.out (Nat.le_refl _) HWg.out)
              go_wp2_with fail
              refine (lslots_any w7 g a n cap L _ sa sn sc stk 64 HL7.out (HRS.out.below HW7.out) (Off1.oldS HRS.out HWg.out) hps).mono ?_
              rintro e w8 ⟨rfl, h8, k8⟩
              go_wp2_with fail
              go_roundg (mn - (i + 1))
              case measure => omega
              case rel => exact ⟨i + 1, by omega, rfl, by go_num, Lib.hid (by rw [HA.out]; exact h8), Lib.hid (HB7.out.keep1 k8 hbg), Lib.hid (HK7.out.trans k8)⟩
            · obtain rfl : i = mn := by omega
              have HEX := Lib.hid (show maps.take i = maps by rw [List.take_of_length_le (by rw [HPn.out]; exact Nat.le_refl _)])
              rw [HEX.out] at HL
              generalize (od4 || !maps.all (mapOk L)) = od5 at *
              have HNM := Lib.hid (show nmB = (decide (0 < findT L [67, 111, 100, 101]) && (((i : Int) == 0) || decide (0 < findT L [83, 116, 97, 99, 107, 77, 97, 112]))) from by rw [HNM.out]; simp only [sCode, sMap, Int.natCast_pos])
              generalize findT L [67, 111, 100, 101] = f1 at *
              generalize findT L [83, 116, 97, 99, 107, 77, 97, 112] = f2 at *
              obtain ⟨c0, c1, c2, c3, c4, c5, c6, c7⟩ := HB2.out.box
              obtain ⟨k0, k1, fr0, fr1, lt0⟩ := HL.out.k.box
              go_wp2_with fail
              refine (HFA.out wr HL.out.ks).mono ?_
              rintro e w8 ⟨rfl, hb8⟩
              have HL8 := Lib.hid (HL.out.below hb8)
              have HK8 := Lib.hid (HK2.out.trans (Keep1.of hb8))
              have HB8 := Lib.hid (HB2.out.keep1 (Keep1.of hb8) hbg)
              clear c0 c1 c2 c3 c4 c5 c6 c7 k0 k1 fr0 fr1 lt0 hb8 HL HB2 HK2
              obtain ⟨c0, c1, c2, c3, c4, c5, c6, c7⟩ := HB8.out.box
              obtain ⟨k0, k1, fr0, fr1, lt0⟩ := HL8.out.k.box
              by_cases g1 : 0 < f1
              · have e1 := decide_eq_true g1
                clear g1
                by_cases g2 : i = 0
                · have e2 : ((i : Int) == 0) = true := by simp [g2]
                  clear g2
                  have HLZ := HL8
                  have HKZ := HK8
                  go_wp2_with fail
                  refine (need_any _ g a n cap L _ true HLZ.out).mono ?_
                  rintro e w9 ⟨rfl, h9, k9⟩
                  go_wp2_with fail
                  go_end0
                  exact ⟨rfl, by rw [show nmB = true by rw [HNM.out]; simp only [e1, e2, Bool.and_true, Bool.true_and, Bool.false_and, Bool.or_true, Bool.true_or, Bool.or_false, Bool.false_or, Bool.and_false]]; exact h9, HKZ.out.trans k9⟩
                · have e2 : ((i : Int) == 0) = false := by simp [g2]
                  clear g2
                  go_wp2_with fail
                  refine (HFB.out w8 HL8.out.ks).mono ?_
                  rintro e wz ⟨rfl, hbz⟩
                  have HLZ := Lib.hid (HL8.out.below hbz)
                  have HKZ := Lib.hid (HK8.out.trans (Keep1.of hbz))
                  clear hbz
                  by_cases g3 : 0 < f2
                  · have e3 := decide_eq_true g3
                    clear g3
                    go_wp2_with fail
                    refine (need_any _ g a n cap L _ true HLZ.out).mono ?_
                    rintro e w9 ⟨rfl, h9, k9⟩
                    go_wp2_with fail
                    go_end0
                    exact ⟨rfl, by rw [show nmB = true by rw [HNM.out]; simp only [e1, e2, e3, Bool.and_true, Bool.true_and, Bool.false_and, Bool.or_true, Bool.true_or, Bool.or_false, Bool.false_or, Bool.and_false]]; exact h9, HKZ.out.trans k9⟩
                  · have e3 := decide_eq_false g3
                    clear g3
                    go_wp2_with fail
                    refine (need_any _ g a n cap L _ false HLZ.out).mono ?_
                    rintro e w9 ⟨rfl, h9, k9⟩
                    go_wp2_with fail
                    go_end0
                    exact ⟨rfl, by rw [show nmB = false by rw [HNM.out]; simp only [e1, e2, e3, Bool.and_true, Bool.true_and, Bool.false_and, Bool.or_true, Bool.true_or, Bool.or_false, Bool.false_or, Bool.and_false]]; exact h9, HKZ.out.trans k9⟩
              · have e1 := decide_eq_false g1
                clear g1
                have HLZ := HL8
                have HKZ := HK8
                go_wp2_with fail
                refine (need_any _ g a n cap L _ false HLZ.out).mono ?_
                rintro e w9 ⟨rfl, h9, k9⟩
                go_wp2_with fail
                go_end0
                exact ⟨rfl, by rw [show nmB = false by rw [HNM.out]; simp only [e1, Bool.and_true, Bool.true_and, Bool.false_and, Bool.or_true, Bool.true_or, Bool.or_false, Bool.false_or, Bool.and_false]]; exact h9, HKZ.out.trans k9⟩
end Go.Proofs.YtclpkipaehpkdaaGreatDoor

namespace Go.Proofs.YtclpkipaehpkdaaGreatDoor
open Go.ChangeShapes Go.WideShapes Go.ChangeAt Go.RowKit
structure KP.Fit (p : KP) : Prop where
  ln : p.ln ≤ 1000000000
  sn : p.sn ≤ 1000000000
structure KM.Fit (m : KM) : Prop where
  fl : IntR m.fl
  cn : m.cn ≤ maxLen
  tn : m.tn ≤ 1000000000000
  mn : m.mn ≤ 1000000000000
  each : ∀ p ∈ m.maps, p.Fit
structure KF.Fit (f : KF) : Prop where
  pn : f.pn ≤ 65536
  ps : ∀ i : Nat, i < f.pn → (kAt f.pool i).s.length ≤ 65536
  fn : f.fn ≤ 1000000000000
  mn : f.mn ≤ 1000000000000
  fl : ∀ d ∈ f.fields, IntR d.fl
  each : ∀ m ∈ f.methods, m.Fit
def KCheckRet (f : KF) (w : World) (e : Ending) (w' : World) : Prop := e = .returned (.int .i64 (if classOk f then 0 else 8)) ∧ Below w.heap.size w w'
theorem class_chain (f : KF) (hp : poolOk f.pool = true) : (!classOk f) = (((((false || !clsOk f.pool f.th) || !(decide (f.su = 0) || clsOk f.pool f.su)) || !decide (f.fields.length ≤ 64 ∧ f.methods.length ≤ 64)) || !f.fields.all (fun d => membOk f.pool d.fl d.nm d.ds)) || !f.methods.all (methOk f.pool)) := by
  have h : (!classOk f) = (false || !classOk f) := by simp
  rw [h]
  unfold classOk
  rw [hp, odd_next, odd_next, odd_next, odd_next, odd_next]
  simp
set_option maxRecDepth 100000 in
set_option maxHeartbeats 16000000 in
theorem KCheck_any (w : World) (f : KF) (h : f.Rd w) (hfit : f.Fit) :
    Calls Tryz.prog 19 #[.agg #[.slice f.pa f.pn f.pc, .int .i64 f.th, .int .i64 f.su, .slice f.fa f.fn f.fc, .slice f.ma f.mn f.mc]] w (KCheckRet f w) := by
  unfold KCheckRet
  have HCH := Lib.hid (class_chain f)
  have HCN := Lib.hid (show poolOk f.pool = false → classOk f = false from fun h => by unfold classOk; rw [h]; rfl)
  obtain ⟨pa, pn, pc, pool, th, su, fa, fn, fc, fields, ma, mn, mc, methods⟩ := f
  dsimp only at HCH HCN ⊢
  have HPK := Lib.hid (show Ks w pa pn pool from h.pool)
  have hpn : pn ≤ 65536 := hfit.pn
  have hfn : fn ≤ 1000000000000 := hfit.fn
  have hmn : mn ≤ 1000000000000 := hfit.mn
  have HPS := Lib.hid (show ∀ i : Nat, i < pn → (kAt pool i).s.length ≤ 65536 from hfit.ps)
  have HFD := Lib.hid (show Ss 3 KD.cells w fa fn fields from h.fields)
  have HMD := Lib.hid (show Ss 8 KM.cells w ma mn methods from h.methods)
  have HE := Lib.hid (show ∀ m ∈ methods, m.Rd w from h.each)
  have HFL := Lib.hid (show ∀ d ∈ fields, IntR d.fl from hfit.fl)
  have HFM := Lib.hid (show ∀ m ∈ methods, m.Fit from hfit.each)
  have HFn := Lib.hid (show fields.length = fn from h.fields.1)
  have HMn := Lib.hid (show methods.length = mn from h.methods.1)
  have HSZ := Lib.hid (show decide (fields.length ≤ 64 ∧ methods.length ≤ 64) = (decide ((fn : Int) ≤ 64) && decide ((mn : Int) ≤ 64)) from by
    rw [HFn.out, HMn.out, ← Bool.decide_and]; exact decide_eq_decide.2 (by omega))
  generalize decide (fields.length ≤ 64 ∧ methods.length ≤ 64) = szB at *
  generalize classOk ⟨pa, pn, pc, pool, th, su, fa, fn, fc, fields, ma, mn, mc, methods⟩ = R at *
  clear h hfit
  obtain ⟨r, hr⟩ : ∃ r : Int, r = if R then 0 else 8 := ⟨_, rfl⟩
  rw [← hr]
  have HRV := Lib.hid hr
  clear hr
  have hal : Below w.heap.size w (w.alloc (.cells #[.slice pa pn pc, .int .i64 th, .int .i64 su, .slice fa fn fc, .slice ma mn mc] 26)) := below_1 _ _
  have HB0 := Lib.hid (heap_alloc_last w (.cells #[.slice pa pn pc, .int .i64 th, .int .i64 su, .slice fa fn fc, .slice ma mn mc] 26))
  have HCP := Lib.hid (Check_any (w.alloc (.cells #[.slice pa pn pc, .int .i64 th, .int .i64 su, .slice fa fn fc, .slice ma mn mc] 26)) pa pn pc pool (HPK.out.below hal) hpn HPS.out)
  unfold CheckRet at HCP
  have HK0 := Lib.hid hal
  clear hal
  go_enter Tryz.func19, Tryz.ntmps19
  go_upto_region 1 with fail
  generalize w.alloc (.cells #[.slice pa pn pc, .int .i64 th, .int .i64 su, .slice fa fn fc, .slice ma mn mc] 26) = W0 at *
  have c0 := row_cell HB0.out 0 rfl
  dsimp at c0
  cases hp : poolOk pool
  · have HN := Lib.hid (HCN.out hp)
    rw [hp] at HCP
    simp only [Bool.false_eq_true, if_false] at HCP
    clear HCH hp
    go_wp2_with fail
    refine HCP.out.mono ?_
    rintro e w1 ⟨rfl, hb1⟩
    have HB1 := Lib.hid (HK0.out.trans (hb1.mono HK0.out.size))
    clear hb1
    go_wp2_with fail
    go_ret
    exact ⟨by rw [HRV.out, HN.out]; rfl, HB1.out⟩
  have HCH := Lib.hid (HCH.out hp)
  rw [hp] at HCP
  simp only [if_true] at HCP
  clear HCN hp
  go_wp2_with fail
  refine HCP.out.mono ?_
  rintro e w1 ⟨rfl, hb1⟩
  have HB1 := Lib.hid (row_below HB0.out hb1)
  have HK1 := Lib.hid (HK0.out.trans (hb1.mono HK0.out.size))
  clear hb1 HCP HB0 HK0 c0
  have c0 := row_cell HB1.out 0 rfl
  have c1 := row_cell HB1.out 1 rfl
  dsimp at c0 c1
  go_upto_region 4 with fail
  have hal : Below w1.heap.size w1 (w1.alloc (.cells #[.slice pa pn pc, .bool false] 106)) := below_1 _ _
  have HL := Lib.hid (show LkS (w1.alloc (.cells #[.slice pa pn pc, .bool false] 106)) w1.heap.size pa pn pc pool false from
    ⟨heap_alloc_last w1 _, (HPK.out.below (by exact HK1.out)).below hal, hpn, Off1.oldS (HPK.out.below (by exact HK1.out)) (Nat.le_refl _)⟩)
  have HB := Lib.hid (row_below HB1.out hal)
  have hbg : w.heap.size ≠ w1.heap.size := Nat.ne_of_lt (row_lt HB1.out)
  have HWg := Lib.hid (show w.heap.size ≤ w1.heap.size by exact HK1.out.size)
  have HW2 := Lib.hid (show Below w.heap.size w (w1.alloc (.cells #[.slice pa pn pc, .bool false] 106)) by exact HK1.out.trans (hal.mono HK1.out.size))
  clear hal c0 c1 HB1 HK1
  generalize w1.alloc (.cells #[.slice pa pn pc, .bool false] 106) = W2 at *
  generalize w1.heap.size = g at *
  have HK := Lib.hid (Keep1.refl g W2)
  have c1 := row_cell HB.out 1 rfl
  dsimp at c1
  go_wp2_with fail
  refine (lclass_any W2 g pa pn pc pool false th HL.out).mono ?_
  rintro e w3 ⟨rfl, h3, k3⟩
  have HL3 := Lib.hid h3
  have HB3 := Lib.hid (k3.blk HB.out hbg)
  have HK3 := Lib.hid (HK.out.trans k3)
  generalize (false || !clsOk pool th) = od1 at *
  clear h3 k3 c1 HL HB HK
  have c2 := row_cell HB3.out 2 rfl
  dsimp at c2
  go_upto_if 22 with fail
  go_cut [] (fun wx => Hid (LkS wx g pa pn pc pool (od1 || !(decide (su = 0) || clsOk pool su))) ∧ Hid (wx.heap[w.heap.size]? = some (.cells #[.slice pa pn pc, .int .i64 th, .int .i64 su, .slice fa fn fc, .slice ma mn mc] 26)) ∧ Hid (Keep1 g W2 wx))
  case first =>
    by_cases h0 : su = 0
    · have e0 : (su != 0) = false := by simp [h0]
      have HS := Lib.hid (show (decide (su = 0) || clsOk pool su) = true by simp [h0])
      clear h0
      go_wp2_with fail
      go_meet
      exact ⟨Lib.hid (by rw [HS.out, Bool.not_true, Bool.or_false]; exact HL3.out), HB3, HK3⟩
    · have e0 : (su != 0) = true := by simp [h0]
      have HS := Lib.hid (show (decide (su = 0) || clsOk pool su) = clsOk pool su by simp [h0])
      clear h0
      go_wp2_with fail
      refine (lclass_any w3 g pa pn pc pool _ su HL3.out).mono ?_
      rintro e w4 ⟨rfl, h4, k4⟩
      go_wp2_with fail
      go_meet
      exact ⟨Lib.hid (by rw [HS.out]; exact h4), Lib.hid (k4.blk HB3.out hbg), Lib.hid (HK3.out.trans k4)⟩
  case rest =>
    clear c2 HL3 HB3 HK3
    obtain ⟨HL, HB, HK⟩ := hcut
    generalize (od1 || !(decide (su = 0) || clsOk pool su)) = od2 at *
    have c3 := row_cell HB.out 3 rfl
    have c4 := row_cell HB.out 4 rfl
    dsimp at c3 c4
    go_upto_region 7 with fail
    go_cut [38] (fun r wx => Hid (LkS wx g pa pn pc pool (od2 || !szB)) ∧ Hid (wx.heap[w.heap.size]? = some (.cells #[.slice pa pn pc, .int .i64 th, .int .i64 su, .slice fa fn fc, .slice ma mn mc] 26)) ∧ Hid (Keep1 g W2 wx))
    case first =>
      by_cases h0 : (fn : Int) ≤ 64
      · have e0 := decide_eq_true h0
        by_cases h1 : (mn : Int) ≤ 64
        · have e1 := decide_eq_true h1
          clear h0 h1
          go_wp2_with fail
          refine (need_any _ g pa pn pc pool _ true HL.out).mono ?_
          rintro e w3 ⟨rfl, h3, k3⟩
          go_wp2_with fail
          go_meet
          refine ⟨Lib.hid ?_, Lib.hid (k3.blk HB.out hbg), Lib.hid (HK.out.trans k3)⟩
          rw [show szB = true by rw [HSZ.out]; simp only [e0, e1, Bool.and_true, Bool.true_and, Bool.false_and, Bool.and_false]]; exact h3
        · have e1 := decide_eq_false h1
          clear h0 h1
          go_wp2_with fail
          refine (need_any _ g pa pn pc pool _ false HL.out).mono ?_
          rintro e w3 ⟨rfl, h3, k3⟩
          go_wp2_with fail
          go_meet
          refine ⟨Lib.hid ?_, Lib.hid (k3.blk HB.out hbg), Lib.hid (HK.out.trans k3)⟩
          rw [show szB = false by rw [HSZ.out]; simp only [e0, e1, Bool.and_true, Bool.true_and, Bool.false_and, Bool.and_false]]; exact h3
      · have e0 := decide_eq_false h0
        clear h0
        go_wp2_with fail
        refine (need_any _ g pa pn pc pool _ false HL.out).mono ?_
        rintro e w3 ⟨rfl, h3, k3⟩
        go_wp2_with fail
        go_meet
        refine ⟨Lib.hid ?_, Lib.hid (k3.blk HB.out hbg), Lib.hid (HK.out.trans k3)⟩
        rw [show szB = false by rw [HSZ.out]; simp only [e0, Bool.and_true, Bool.true_and, Bool.false_and, Bool.and_false]]; exact h3
    case rest =>
      clear c3 c4 HL HB HK
      obtain ⟨HL, HB, HK⟩ := hcut
      generalize (od2 || !szB) = od3 at *
      have c3 := row_cell HB.out 3 rfl
      dsimp at c3
      go_wp2_with fail
      clear c3
      go_loopg [42] fn (fun gn iv wr => ∃ j : Nat, j ≤ fn ∧ gn = fn - j ∧ iv = .int .i64 j ∧ Hid (LkS wr g pa pn pc pool (od3 || !(fields.take j).all (fun d => membOk pool d.fl d.nm d.ds))) ∧ Hid (wr.heap[w.heap.size]? = some (.cells #[.slice pa pn pc, .int .i64 th, .int .i64 su, .slice fa fn fc, .slice ma mn mc] 26)) ∧ Hid (Keep1 g W2 wr))
      case atStart => exact ⟨0, by omega, by omega, by go_num, Lib.hid (by simpa using HL.out), HB, HK⟩
      case round =>
        clear HL HB HK
        obtain ⟨j, hj, rfl, rfl, HL, HB, HK⟩ := hrel
        by_cases hlt : j < fn
        · obtain ⟨b, off, d, rfl, _, hv, q⟩ := (HFD.out.below (HK.out.below HW2.out (Nat.le_refl _) HWg.out)).getC j hlt
          have HA := Lib.hid (show (od3 || !(fields.take (j + 1)).all (fun d => membOk pool d.fl d.nm d.ds)) = ((od3 || !(fields.take j).all (fun d => membOk pool d.fl d.nm d.ds)) || !membOk pool d.fl d.nm d.ds) by rw [all_take _ _ _ _ hv, odd_next])
          have HFI := Lib.hid (HFL.out d (List.mem_of_getElem? hv))
          obtain ⟨fl, nm, ds⟩ := d
          dsimp only at HA HFI
          have q0 : wr.cell? ⟨b, off + j * 3, none⟩ = some (.int .i64 fl) := q 0 (by omega)
          have q1 : wr.cell? ⟨b, off + j * 3 + 1, none⟩ = some (.int .i64 nm) := q 1 (by omega)
          have q2 : wr.cell? ⟨b, off + j * 3 + 2, none⟩ = some (.int .i64 ds) := q 2 (by omega)
          clear q hv
          generalize (od3 || !(fields.take j).all (fun d => membOk pool d.fl d.nm d.ds)) = od at *
          have hj1 : (j : Int) < fn := by omega
          have hb : Below wr.heap.size wr (wr.alloc (.cells #[.int .i64 fl, .int .i64 nm, .int .i64 ds] 75)) := below_1 _ _
          have HL4 := Lib.hid (HL.out.below hb)
          have HB4 := Lib.hid (row_below HB.out hb)
          have HK4 := Lib.hid (HK.out.trans (Keep1.of hb))
          have HT4 := Lib.hid (heap_alloc_last wr (.cells #[.int .i64 fl, .int .i64 nm, .int .i64 ds] 75))
          clear hb HL HB HK
          go_upto_region 11 with fail
          clear q0 q1 q2
          generalize wr.alloc (.cells #[.int .i64 fl, .int .i64 nm, .int .i64 ds] 75) = W4 at *
          generalize wr.heap.size = bt at *
          have p0 := row_cell HT4.out 0 rfl
          have p1 := row_cell HT4.out 1 rfl
          have p2 := row_cell HT4.out 2 rfl
          dsimp at p0 p1 p2
          go_wp2_with fail
          refine (lmember_any W4 g pa pn pc pool _ fl nm ds HL4.out HFI.out).mono ?_
          rintro e w6 ⟨rfl, h6, k6⟩
          go_wp2_with fail
          go_roundg (fn - (j + 1))
          case measure => omega
          case rel => exact ⟨j + 1, by omega, rfl, by go_num, Lib.hid (by rw [HA.out]; exact h6), Lib.hid (k6.blk HB4.out hbg), Lib.hid (HK4.out.trans k6)⟩
        · obtain rfl : j = fn := by omega
          have HEX := Lib.hid (show fields.take j = fields by rw [List.take_of_length_le (by rw [HFn.out]; exact Nat.le_refl _)])
          rw [HEX.out] at HL
          generalize (od3 || !fields.all (fun d => membOk pool d.fl d.nm d.ds)) = od4 at *
          have c4 := row_cell HB.out 4 rfl
          dsimp at c4
          go_wp2_with fail
          clear c4
          go_loopg [58] mn (fun gn iv wr => ∃ i : Nat, i ≤ mn ∧ gn = mn - i ∧ iv = .int .i64 i ∧ Hid (LkS wr g pa pn pc pool (od4 || !(methods.take i).all (methOk pool))) ∧ Hid (Keep1 g W2 wr))
          case atStart => exact ⟨0, by omega, by omega, by go_num, Lib.hid (by simpa using HL.out), HK⟩
          case round =>
            clear HL HB HK
            obtain ⟨i, hi, rfl, rfl, HL, HK⟩ := hrel
            by_cases hli : i < mn
            · have HWR := Lib.hid (HK.out.below HW2.out (Nat.le_refl _) HWg.out)
              obtain ⟨b, off, m, rfl, _, hv, q⟩ := (HMD.out.below HWR.out).getC i hli
              have HA := Lib.hid (show (od4 || !(methods.take (i + 1)).all (methOk pool)) = ((od4 || !(methods.take i).all (methOk pool)) || !methOk pool m) by rw [all_take _ _ _ _ hv, odd_next])
              have hR := HE.out m (List.mem_of_getElem? hv)
              have hF := HFM.out m (List.mem_of_getElem? hv)
              have HCM := Lib.hid (fun (W : World) od (h1 : LkS W g pa pn pc pool od) (h2 : Below w.heap.size w W) => lmethod_any w W g pa pn pc pool od m h1 hR h2 HWg.out hF.fl hF.cn hF.tn hF.mn (fun p hp => ⟨(hF.each p hp).ln, (hF.each p hp).sn⟩))
              clear hR hF
              obtain ⟨fl, nm, ds, st, lo, ca, cn, cc, code, ta, tn, tc, traps, na, nn, nc, maps⟩ := m
              dsimp only at HCM
              generalize methOk pool ⟨fl, nm, ds, st, lo, ca, cn, cc, code, ta, tn, tc, traps, na, nn, nc, maps⟩ = ok at *
              have q0 : wr.cell? ⟨b, off + i * 8, none⟩ = some (.int .i64 fl) := q 0 (by omega)
              have q1 : wr.cell? ⟨b, off + i * 8 + 1, none⟩ = some (.int .i64 nm) := q 1 (by omega)
              have q2 : wr.cell? ⟨b, off + i * 8 + 2, none⟩ = some (.int .i64 ds) := q 2 (by omega)
              have q3 : wr.cell? ⟨b, off + i * 8 + 3, none⟩ = some (.int .i64 st) := q 3 (by omega)
              have q4 : wr.cell? ⟨b, off + i * 8 + 4, none⟩ = some (.int .i64 lo) := q 4 (by omega)
              have q5 : wr.cell? ⟨b, off + i * 8 + 5, none⟩ = some (.slice ca cn cc) := q 5 (by omega)
              have q6 : wr.cell? ⟨b, off + i * 8 + 6, none⟩ = some (.slice ta tn tc) := q 6 (by omega)
              have q7 : wr.cell? ⟨b, off + i * 8 + 7, none⟩ = some (.slice na nn nc) := q 7 (by omega)
              clear q hv
              generalize (od4 || !(methods.take i).all (methOk pool)) = od at *
              have hi1 : (i : Int) < mn := by omega
              have hb : Below wr.heap.size wr (wr.alloc (.cells #[.int .i64 fl, .int .i64 nm, .int .i64 ds, .int .i64 st, .int .i64 lo, .slice ca cn cc, .slice ta tn tc, .slice na nn nc] 65)) := below_1 _ _
              have HL4 := Lib.hid (HL.out.below hb)
              have HK4 := Lib.hid (HK.out.trans (Keep1.of hb))
              have HT4 := Lib.hid (heap_alloc_last wr (.cells #[.int .i64 fl, .int .i64 nm, .int .i64 ds, .int .i64 st, .int .i64 lo, .slice ca cn cc, .slice ta tn tc, .slice na nn nc] 65))
              have HW4 := Lib.hid (HWR.out.trans (hb.mono HWR.out.size))
              clear hb HL HK HWR
              go_upto_region 16 with fail
              clear q0 q1 q2 q3 q4 q5 q6 q7
              generalize wr.alloc (.cells #[.int .i64 fl, .int .i64 nm, .int .i64 ds, .int .i64 st, .int .i64 lo, .slice ca cn cc, .slice ta tn tc, .slice na nn nc] 65) = W4 at *
              generalize wr.heap.size = bt at *
              have p0 := row_cell HT4.out 0 rfl
              have p1 := row_cell HT4.out 1 rfl
              have p2 := row_cell HT4.out 2 rfl
              have p3 := row_cell HT4.out 3 rfl
              have p4 := row_cell HT4.out 4 rfl
              have p5 := row_cell HT4.out 5 rfl
              have p6 := row_cell HT4.out 6 rfl
              have p7 := row_cell HT4.out 7 rfl
              dsimp at p0 p1 p2 p3 p4 p5 p6 p7
              go_wp2_with fail
              refine (HCM.out W4 _ HL4.out HW4.out).mono ?_
              rintro e w6 ⟨rfl, h6, k6⟩
              go_wp2_with fail
              go_roundg (mn - (i + 1))
              case measure => omega
              case rel => exact ⟨i + 1, by omega, rfl, by go_num, Lib.hid (by rw [HA.out]; exact h6), Lib.hid (HK4.out.trans k6)⟩
            · obtain rfl : i = mn := by omega
              have HEY := Lib.hid (show methods.take i = methods by rw [List.take_of_length_le (by rw [HMn.out]; exact Nat.le_refl _)])
              rw [HEY.out] at HL
              generalize (od4 || !methods.all (methOk pool)) = od5 at *
              have HBZ := Lib.hid (HK.out.below HW2.out (Nat.le_refl _) HWg.out)
              obtain ⟨k0, k1, fr0, fr1, lt0⟩ := HL.out.k.box
              cases od5
              · have HRZ := Lib.hid (show r = 0 by have h1 := HCH.out; rw [HRV.out]; cases R <;> simp at h1 ⊢)
                go_wp2_with fail
                go_ret
                exact ⟨by rw [HRZ.out]; rfl, HBZ.out⟩
              · have HRZ := Lib.hid (show r = 8 by have h1 := HCH.out; rw [HRV.out]; cases R <;> simp at h1 ⊢)
                go_wp2_with fail
                go_ret
                exact ⟨by rw [HRZ.out]; rfl, HBZ.out⟩
end Go.Proofs.YtclpkipaehpkdaaGreatDoor

