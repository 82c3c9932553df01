/- klass: what has to hold of numbers, slots and members. No condition. -/
import Derived.Test.YtnfhiakdbakpgaaQ09KlassCuts
import Derived.Deep.DeepCutAuto
namespace Go.Proofs.Ytnfhiakdbakpgaa
open Go.ChangeShapes Go.WideShapes Go.ChangeAt Go.RowKit
theorem Sl.litZ (w : World) (n : Nat) (l : List Int) (t : TypeId) (hn : n = l.length) : Sl encZ (w.alloc (.cells (l.map encZ).toArray t)) (some ⟨w.heap.size, 0, none⟩) n l := by
  subst hn
  refine ⟨rfl, fun _ => ⟨w.heap.size, 0, rfl, by simp, fun i hi => ?_⟩⟩
  rw [cell_of_row _ w.heap.size (0 + i) _ _ _ (heap_alloc_last w _)]
  simp [hi]
theorem Sl.getZ {w : World} {a : Option Addr} {n : Nat} {l : List Int} (h : Sl encZ w a n l) (j : Nat) (hj : j < n) : ∃ b off v, a = some ⟨b, off, none⟩ ∧ b < w.heap.size ∧ l[j]? = some v ∧ w.cell? ⟨b, off + j, none⟩ = some (.int .i64 v) := by
  obtain ⟨b, off, ha, hlt, hc⟩ := h.2 (by omega)
  have hl : j < l.length := by rw [h.1]; exact hj
  exact ⟨b, off, l[j], ha, hlt, List.getElem?_eq_getElem hl, hc j hl⟩
theorem odd_next (odd A p : Bool) : (odd || !(A && p)) = ((odd || !A) || !p) := by cases odd <;> cases A <;> cases p <;> rfl
set_option maxRecDepth 100000 in
set_option maxHeartbeats 4000000 in
theorem wide_any (w : World) (g : Nat) (a : Option Addr) (n cap : Nat) (L : List KV) (odd : Bool) (za : Option Addr) (zn zc : Nat) (l : List Int) (h : LkS w g a n cap L odd) (hz : Sl encZ w za zn l) (ho : Off1 za zn g) (hzn : zn ≤ 1000) :
    Calls Try.prog 63 #[.pointer (some ⟨g, 0, none⟩), .slice za zn zc] w (LkRet g a n cap L (odd || !l.all wideOk) w) := by
  have H := Lib.hid h
  have HZ := Lib.hid hz
  have HZn := Lib.hid hz.1
  have HO := Lib.hid ho
  clear h hz ho
  go_enter Try.func63, Try.ntmps63
  go_wp2_with fail
  go_loopg [8] zn (fun gn i wr => ∃ j : Nat, j ≤ zn ∧ gn = zn - j ∧ i = .int .i64 j ∧ Hid (LkS wr g a n cap L (odd || !(l.take j).all wideOk)) ∧ Hid (Keep1 g w wr))
  case atStart => exact ⟨0, by omega, by omega, by go_num, Lib.hid (by simpa using H.out), Lib.hid (Keep1.refl _ _)⟩
  case round =>
    obtain ⟨j, hj, rfl, rfl, HL, HK⟩ := hrel
    by_cases hlt : j < zn
    · obtain ⟨b, off, v, rfl, _, hv, q0⟩ := (HZ.out.keep1 HK.out HO.out).getZ j hlt
      have HA := Lib.hid (show (odd || !(l.take (j + 1)).all wideOk) = ((odd || !(l.take j).all wideOk) || !wideOk v) by rw [all_take _ _ _ _ hv, odd_next])
      have HN := Lib.hid (need_any wr g a n cap L (odd || !(l.take j).all wideOk) (wideOk v) HL.out)
      clear hv
      have hj1 : (j : Int) < zn := by omega
      by_cases hv0 : 0 ≤ v
      · by_cases hv1 : v ≤ 65535
        · have HW := Lib.hid (show wideOk v = true from decide_eq_true ⟨hv0, hv1⟩)
          have e0 := decide_eq_true hv0
          have e1 := decide_eq_true hv1
          rw [HW.out] at HN HA
          clear hv0 hv1
          go_wp2_with fail
          refine HN.out.mono ?_
          rintro e w1 ⟨rfl, h1, h2⟩
          go_wp2_with fail
          go_roundg (zn - (j + 1))
          case measure => omega
          case rel => exact ⟨j + 1, by omega, rfl, by go_num, Lib.hid (by rw [HA.out]; exact h1), Lib.hid (HK.out.trans h2)⟩
        · have HW := Lib.hid (show wideOk v = false from decide_eq_false fun h => hv1 h.2)
          have e0 := decide_eq_true hv0
          have e1 := decide_eq_false hv1
          rw [HW.out] at HN HA
          clear hv0 hv1
          go_wp2_with fail
          refine HN.out.mono ?_
          rintro e w1 ⟨rfl, h1, h2⟩
          go_wp2_with fail
          go_roundg (zn - (j + 1))
          case measure => omega
          case rel => exact ⟨j + 1, by omega, rfl, by go_num, Lib.hid (by rw [HA.out]; exact h1), Lib.hid (HK.out.trans h2)⟩
      · have HW := Lib.hid (show wideOk v = false from decide_eq_false fun h => hv0 h.1)
        have e0 := decide_eq_false hv0
        rw [HW.out] at HN HA
        clear hv0
        go_wp2_with fail
        refine HN.out.mono ?_
        rintro e w1 ⟨rfl, h1, h2⟩
        go_wp2_with fail
        go_roundg (zn - (j + 1))
        case measure => omega
        case rel => exact ⟨j + 1, by omega, rfl, by go_num, Lib.hid (by rw [HA.out]; exact h1), Lib.hid (HK.out.trans h2)⟩
    · obtain rfl : j = zn := by omega
      have HE := Lib.hid (show l.take j = l by rw [List.take_of_length_le (by rw [HZn.out]; exact Nat.le_refl _)])
      rw [HE.out] at HL
      go_wp2_with fail
      go_end0
      exact ⟨rfl, HL.out, HK.out⟩
set_option maxRecDepth 100000 in
set_option maxHeartbeats 4000000 in
theorem lslots_any (w : World) (g : Nat) (a : Option Addr) (n cap : Nat) (L : List KV) (odd : Bool) (za : Option Addr) (zn zc : Nat) (l : List KS) (most : Int) (h : LkS w g a n cap L odd) (hz : Ss 2 KS.cells w za zn l) (ho : Off1 za zn g) (hzn : zn ≤ 1000000000) :
    Calls Try.prog 64 #[.pointer (some ⟨g, 0, none⟩), .slice za zn zc, .int .i64 most] w (LkRet g a n cap L (odd || !slotsOk L most l) w) := by
  have HN0 := Lib.hid (need_any w g a n cap L odd (decide ((zn : Int) ≤ most)) h)
  have HZ := Lib.hid hz
  have HZn := Lib.hid hz.1
  have HO := Lib.hid ho
  have HR := Lib.hid (show (odd || !slotsOk L most l) = ((odd || !decide ((zn : Int) ≤ most)) || !l.all (slotOk L)) by unfold slotsOk; rw [hz.1, odd_next])
  rw [HR.out]
  clear h hz ho
  go_enter Try.func64, Try.ntmps64
  go_wp2_with fail
  refine HN0.out.mono ?_
  rintro e w0 ⟨rfl, h1, h2⟩
  have H := Lib.hid h1
  have HK0 := Lib.hid h2
  generalize (odd || !decide ((zn : Int) ≤ most)) = odd at *
  clear h1 h2 HN0 HR
  go_wp2_with fail
  go_loopg [16] zn (fun gn i wr => ∃ j : Nat, j ≤ zn ∧ gn = zn - j ∧ i = .int .i64 j ∧ Hid (LkS wr g a n cap L (odd || !(l.take j).all (slotOk L))) ∧ Hid (Keep1 g w wr))
  case atStart => exact ⟨0, by omega, by omega, by go_num, Lib.hid (by simpa using H.out), HK0⟩
  case round =>
    obtain ⟨j, hj, rfl, rfl, HL, HK⟩ := hrel
    by_cases hlt : j < zn
    · obtain ⟨b, off, s, rfl, _, hv, q⟩ := (Ss.keep1 HZ.out HK.out HO.out).getC j hlt
      have HA := Lib.hid (show (odd || !(l.take (j + 1)).all (slotOk L)) = ((odd || !(l.take j).all (slotOk L)) || !slotOk L s) by rw [all_take _ _ _ _ hv, odd_next])
      obtain ⟨tg, sa⟩ := s
      have q0 : wr.cell? ⟨b, off + j * 2, none⟩ = some (.int .i64 tg) := q 0 (by omega)
      have q1 : wr.cell? ⟨b, off + j * 2 + 1, none⟩ = some (.int .i64 sa) := q 1 (by omega)
      clear q hv
      generalize (odd || !(l.take j).all (slotOk L)) = od at *
      have hj1 : (j : Int) < zn := by omega
      have hb : Below wr.heap.size wr (wr.alloc (.cells #[.int .i64 tg, .int .i64 sa] 119)) := below_1 _ _
      have HL1 := Lib.hid (HL.out.below hb)
      have HK1 := Lib.hid (HK.out.trans (Keep1.of hb))
      have p0 := row_cell (heap_alloc_last wr (.cells #[.int .i64 tg, .int .i64 sa] 119)) 0 rfl
      have p1 := row_cell (heap_alloc_last wr (.cells #[.int .i64 tg, .int .i64 sa] 119)) 1 rfl
      simp only [List.getElem?_toArray, List.getElem_toArray, List.getElem_cons_zero, List.getElem_cons_succ] at p0 p1
      clear hb HL HK
      go_upto_region 4 with fail
      clear q0 q1
      generalize wr.alloc (.cells #[.int .i64 tg, .int .i64 sa] 119) = W1 at *
      by_cases h7 : tg = 7
      · subst h7
        have HW := Lib.hid (show slotOk L ⟨7, sa⟩ = clsOk L sa from rfl)
        go_wp2_with fail
        refine (lclass_any W1 g a n cap L od sa HL1.out).mono ?_
        rintro e w1 ⟨rfl, h1, h2⟩
        go_wp2_with fail
        go_roundg (zn - (j + 1))
        case measure => omega
        case rel => exact ⟨j + 1, by omega, rfl, by go_num, Lib.hid (by rw [HA.out, HW.out]; exact h1), Lib.hid (HK1.out.trans h2)⟩
      · by_cases h4 : tg = 0 ∨ tg = 1 ∨ tg = 4 ∨ tg = 5
        · have HW := Lib.hid (show slotOk L ⟨tg, sa⟩ = (sa == 0) by unfold slotOk; rw [if_neg h7, decide_eq_true h4]; rfl)
          clear h7
          rcases h4 with rfl | rfl | rfl | rfl
          · go_wp2_with fail
            refine (need_any W1 g a n cap L od (sa == 0) HL1.out).mono ?_
            rintro e w1 ⟨rfl, h1, h2⟩
            go_wp2_with fail
            go_roundg (zn - (j + 1))
            case measure => omega
            case rel => exact ⟨j + 1, by omega, rfl, by go_num, Lib.hid (by rw [HA.out, HW.out]; exact h1), Lib.hid (HK1.out.trans h2)⟩
          · go_wp2_with fail
            refine (need_any W1 g a n cap L od (sa == 0) HL1.out).mono ?_
            rintro e w1 ⟨rfl, h1, h2⟩
            go_wp2_with fail
            go_roundg (zn - (j + 1))
            case measure => omega
            case rel => exact ⟨j + 1, by omega, rfl, by go_num, Lib.hid (by rw [HA.out, HW.out]; exact h1), Lib.hid (HK1.out.trans h2)⟩
          · go_wp2_with fail
            refine (need_any W1 g a n cap L od (sa == 0) HL1.out).mono ?_
            rintro e w1 ⟨rfl, h1, h2⟩
            go_wp2_with fail
            go_roundg (zn - (j + 1))
            case measure => omega
            case rel => exact ⟨j + 1, by omega, rfl, by go_num, Lib.hid (by rw [HA.out, HW.out]; exact h1), Lib.hid (HK1.out.trans h2)⟩
          · go_wp2_with fail
            refine (need_any W1 g a n cap L od (sa == 0) HL1.out).mono ?_
            rintro e w1 ⟨rfl, h1, h2⟩
            go_wp2_with fail
            go_roundg (zn - (j + 1))
            case measure => omega
            case rel => exact ⟨j + 1, by omega, rfl, by go_num, Lib.hid (by rw [HA.out, HW.out]; exact h1), Lib.hid (HK1.out.trans h2)⟩
        · have HW := Lib.hid (show slotOk L ⟨tg, sa⟩ = false by unfold slotOk; rw [if_neg h7, decide_eq_false h4]; rfl)
          have e7 : (tg == 7) = false := beq_eq_false_iff_ne.2 h7
          have e0 : (tg == 0) = false := beq_eq_false_iff_ne.2 (by omega)
          have e1 : (tg == 1) = false := beq_eq_false_iff_ne.2 (by omega)
          have e4 : (tg == 4) = false := beq_eq_false_iff_ne.2 (by omega)
          have e5 : (tg == 5) = false := beq_eq_false_iff_ne.2 (by omega)
          clear h7 h4
          go_wp2_with fail
          refine (need_any W1 g a n cap L od false HL1.out).mono ?_
          rintro e w1 ⟨rfl, h1, h2⟩
          go_wp2_with fail
          go_roundg (zn - (j + 1))
          case measure => omega
          case rel => exact ⟨j + 1, by omega, rfl, by go_num, Lib.hid (by rw [HA.out, HW.out]; exact h1), Lib.hid (HK1.out.trans h2)⟩
    · obtain rfl : j = zn := by omega
      have HE := Lib.hid (show l.take j = l by rw [List.take_of_length_le (by rw [HZn.out]; exact Nat.le_refl _)])
      rw [HE.out] at HL
      go_wp2_with fail
      go_end0
      exact ⟨rfl, HL.out, HK.out⟩
theorem bv_only8 (v : BitVec 64) (h : v &&& ~~~8#64 = 0#64) : v = 0#64 ∨ v = 8#64 := by
  have hb : ∀ i, i ≠ 3 → v.getLsbD i = false := by
    intro i hi
    have h1 := congrArg (fun b => b.getLsbD i) h
    have h8 : (8#64).getLsbD i = false := by
      rw [show (8#64) = BitVec.twoPow 64 3 by decide, BitVec.getLsbD_twoPow]
      simp
      omega
    simp only [BitVec.getLsbD_and, BitVec.getLsbD_not, h8, Bool.not_false, Bool.and_true, BitVec.getLsbD_zero] at h1
    by_cases hl : i < 64
    · simpa [hl] using h1
    · exact BitVec.getLsbD_of_ge v i (by omega)
  cases h3 : v.getLsbD 3
  · left
    apply BitVec.eq_of_getLsbD_eq
    intro i hi
    by_cases hi3 : i = 3
    · subst hi3; rw [h3]; rfl
    · rw [hb i hi3]; simp
  · right
    apply BitVec.eq_of_getLsbD_eq
    intro i hi
    by_cases hi3 : i = 3
    · subst hi3; rw [h3]; rfl
    · rw [hb i hi3, show (8#64) = BitVec.twoPow 64 3 by decide, BitVec.getLsbD_twoPow]
      simp
      omega
theorem andNot8 (fl : Int) (h : IntR fl) : (bits .andNot .i64 fl 8 == 0) = decide (fl = 0 ∨ fl = 8) := by
  have hd : bits .andNot .i64 fl 8 = IntKind.i64.wrap (((BitVec.ofInt 64 fl &&& ~~~8#64).toNat : Nat) : Int) := rfl
  by_cases h0 : fl = 0 ∨ fl = 8
  · rw [decide_eq_true h0]
    rcases h0 with rfl | rfl <;> decide
  · rw [decide_eq_false h0, beq_eq_false_iff_ne, hd]
    intro hw
    have hz : (BitVec.ofInt 64 fl &&& ~~~8#64) = 0#64 := by
      apply BitVec.eq_of_toNat_eq
      have hl := (BitVec.ofInt 64 fl &&& ~~~8#64).isLt
      rw [IntKind.wrap_i64] at hw
      simp only [BitVec.toNat_ofNat, Nat.zero_mod]
      omega
    unfold IntR at h
    have ht : (BitVec.ofInt 64 fl).toInt = fl := by rw [BitVec.toInt_ofInt, Int.bmod_def]; omega
    rcases bv_only8 _ hz with h8 | h8
    · rw [h8] at ht; exact h0 (.inl (ht.symm.trans (by decide)))
    · rw [h8] at ht; exact h0 (.inr (ht.symm.trans (by decide)))
set_option maxRecDepth 100000 in
set_option maxHeartbeats 4000000 in
theorem lmember_any (w : World) (g : Nat) (a : Option Addr) (n cap : Nat) (L : List KV) (odd : Bool) (fl nm ds : Int) (h : LkS w g a n cap L odd) (hf : IntR fl) :
    Calls Try.prog 30 #[.pointer (some ⟨g, 0, none⟩), .int .i64 fl, .int .i64 nm, .int .i64 ds] w (LkRet g a n cap L (odd || !membOk L fl nm ds) w) := by
  have H := Lib.hid h
  have HR := Lib.hid (show (odd || !membOk L fl nm ds) = (((odd || !decide (fl = 0 ∨ fl = 8)) || !isT L nm 1) || !isT L ds 1) by unfold membOk; rw [odd_next, odd_next])
  rw [HR.out]
  have e8 := andNot8 fl hf
  generalize decide (fl = 0 ∨ fl = 8) = b8 at *
  have HN := Lib.hid (need_any w g a n cap L odd b8 h)
  clear h
  go_enter Try.func30, Try.ntmps30
  go_wp2_with fail
  refine HN.out.mono ?_
  rintro e w1 ⟨rfl, h1, k1⟩
  have H1 := Lib.hid h1
  have HK1 := Lib.hid k1
  clear h1 k1
  go_wp2_with fail
  refine (ltext_any w1 g a n cap L _ nm H1.out).mono ?_
  rintro e w2 ⟨rfl, h2, k2⟩
  have H2 := Lib.hid h2
  have HK2 := Lib.hid (HK1.out.trans k2)
  clear h2 k2
  go_wp2_with fail
  refine (ltext_any w2 g a n cap L _ ds H2.out).mono ?_
  rintro e w3 ⟨rfl, h3, k3⟩
  have HK3 := Lib.hid (HK2.out.trans k3)
  go_wp2_with fail
  go_end0
  exact ⟨rfl, h3, HK3.out⟩
end Go.Proofs.Ytnfhiakdbakpgaa
/- klass: what has to hold of a method. No condition. -/
namespace Go.Proofs.Ytnfhiakdbakpgaa
open Go.ChangeShapes Go.WideShapes Go.ChangeAt Go.RowKit
theorem Keep1.blk {g b : Nat} {w w' : World} {o : Obj} (k : Keep1 g w w') (h : w.heap[b]? = some o) (hne : b ≠ g) : w'.heap[b]? = some o := by
  rw [k.block b (Array.getElem?_eq_some_iff.1 h).1 hne]; exact h
/-- A method's cells in a block. -/
def MBk (w : World) (b : Nat) (fl nm ds st lo : Int) (ca : Option Addr) (cn cc : Nat) (ta : Option Addr) (tn tc : Nat) (ma : Option Addr) (mn mc : Nat) : Prop := w.heap[b]? = some (.cells #[.int .i64 fl, .int .i64 nm, .int .i64 ds, .int .i64 st, .int .i64 lo, .slice ca cn cc, .slice ta tn tc, .slice ma mn mc] 48)
structure MBox (w : World) (b : Nat) (fl nm ds st lo : Int) (ca : Option Addr) (cn cc : Nat) (ta : Option Addr) (tn tc : Nat) (ma : Option Addr) (mn mc : Nat) : Prop where
  c0 : w.cell? ⟨b, 0, none⟩ = some (.int .i64 fl)
  c1 : w.cell? ⟨b, 1, none⟩ = some (.int .i64 nm)
  c2 : w.cell? ⟨b, 2, none⟩ = some (.int .i64 ds)
  c3 : w.cell? ⟨b, 3, none⟩ = some (.int .i64 st)
  c4 : w.cell? ⟨b, 4, none⟩ = some (.int .i64 lo)
  c5 : w.cell? ⟨b, 5, none⟩ = some (.slice ca cn cc)
  c6 : w.cell? ⟨b, 6, none⟩ = some (.slice ta tn tc)
  c7 : w.cell? ⟨b, 7, none⟩ = some (.slice ma mn mc)
section
variable {w w' : World} {g b : Nat} {fl nm ds st lo : Int} {ca : Option Addr} {cn cc : Nat} {ta : Option Addr} {tn tc : Nat} {ma : Option Addr} {mn mc : Nat}
theorem MBk.box (h : MBk w b fl nm ds st lo ca cn cc ta tn tc ma mn mc) : MBox w b fl nm ds st lo ca cn cc ta tn tc ma mn mc :=
  ⟨row_cell h 0 rfl, row_cell h 1 rfl, row_cell h 2 rfl, row_cell h 3 rfl, row_cell h 4 rfl, row_cell h 5 rfl, row_cell h 6 rfl, row_cell h 7 rfl⟩
theorem MBk.keep1 (h : MBk w b fl nm ds st lo ca cn cc ta tn tc ma mn mc) (k : Keep1 g w w') (hne : b ≠ g) : MBk w' b fl nm ds st lo ca cn cc ta tn tc ma mn mc := k.blk h hne
end
theorem sizes_all (m : KM) : sizesOk m = ((decide (0 ≤ m.st) && decide (m.st ≤ 64)) && decide (0 ≤ m.lo) && decide (m.lo ≤ 64)) := by
  unfold sizesOk
  by_cases h1 : 0 ≤ m.st <;> by_cases h2 : m.st ≤ 64 <;> by_cases h3 : 0 ≤ m.lo <;> by_cases h4 : m.lo ≤ 64 <;> simp [h1, h2, h3, h4]
theorem lens_all (m : KM) (h1 : m.code.length = m.cn) (h2 : m.traps.length = m.tn) (h3 : m.maps.length = m.mn) : lensOk m = ((decide (0 < m.cn) && decide ((m.cn : Int) ≤ 4096)) && decide ((m.tn : Int) ≤ 255) && decide ((m.mn : Int) ≤ 255)) := by
  unfold lensOk
  rw [h1, h2, h3, ← Bool.decide_and, ← Bool.decide_and, ← Bool.decide_and]
  exact decide_eq_decide.2 (by omega)
theorem meth_chain (L : List KV) (m : KM) (odd : Bool) : (odd || !methOk L m) = (((((odd || !membOk L m.fl m.nm m.ds) || !sizesOk m) || !lensOk m) || !m.traps.all (trapOk L)) || !m.maps.all (mapOk L) || !namesOk L m) := by
  unfold methOk
  rw [odd_next, odd_next, odd_next, odd_next, odd_next]
set_option maxRecDepth 100000 in
set_option maxHeartbeats 16000000 in
theorem lmethod_any (W0 w : World) (g : Nat) (a : Option Addr) (n cap : Nat) (L : List KV) (odd : Bool) (m : KM) (h : LkS w g a n cap L odd) (hm : m.Rd W0) (hb : Below W0.heap.size W0 w) (hg : W0.heap.size ≤ g) (hf : IntR m.fl) (hc : m.cn ≤ maxLen) (ht : m.tn ≤ 1000000000000) (hp : m.mn ≤ 1000000000000) (hq : ∀ p ∈ m.maps, p.ln ≤ 1000000000 ∧ p.sn ≤ 1000000000) :
    Calls Try.prog 31 #[.pointer (some ⟨g, 0, none⟩), .agg #[.int .i64 m.fl, .int .i64 m.nm, .int .i64 m.ds, .int .i64 m.st, .int .i64 m.lo, .slice m.ca m.cn m.cc, .slice m.ta m.tn m.tc, .slice m.ma m.mn m.mc]] w (LkRet g a n cap L (odd || !methOk L m) w) := by
  have HFIN := Lib.hid (meth_chain L m odd)
  rw [HFIN.out]
  obtain ⟨fl, nm, ds, st, lo, ca, cn, cc, code, ta, tn, tc, traps, ma, mn, mc, maps⟩ := m
  dsimp only at hf hc ht hp hq ⊢
  have HSZ := Lib.hid (sizes_all (⟨fl, nm, ds, st, lo, ca, cn, cc, code, ta, tn, tc, traps, ma, mn, mc, maps⟩ : KM))
  have HLE := Lib.hid (lens_all (⟨fl, nm, ds, st, lo, ca, cn, cc, code, ta, tn, tc, traps, ma, mn, mc, maps⟩ : KM) hm.code.1 hm.traps.1 hm.maps.1)
  dsimp only at HSZ HLE
  have HT := Lib.hid (show Ss 4 KT.cells W0 ta tn traps from hm.traps)
  have HP := Lib.hid (show Ss 3 KP.cells W0 ma mn maps from hm.maps)
  have HE := Lib.hid (show ∀ p ∈ maps, p.Rd W0 from hm.each)
  have HTn := Lib.hid (show traps.length = tn from hm.traps.1)
  have HPn := Lib.hid (show maps.length = mn from hm.maps.1)
  have HNM := Lib.hid (show namesOk L (⟨fl, nm, ds, st, lo, ca, cn, cc, code, ta, tn, tc, traps, ma, mn, mc, maps⟩ : KM) = (decide ((0 : Int) < (findT L sCode : Int)) && (((mn : Int) == 0) || decide ((0 : Int) < (findT L sMap : Int)))) from by
    have hl : maps.length = mn := hm.maps.1
    unfold namesOk
    dsimp only
    rw [hl]
    by_cases h1 : 0 < findT L sCode <;> by_cases h2 : mn = 0 <;> by_cases h3 : 0 < findT L sMap <;> simp [h1, h2, h3])
  generalize sizesOk (⟨fl, nm, ds, st, lo, ca, cn, cc, code, ta, tn, tc, traps, ma, mn, mc, maps⟩ : KM) = szB at *
  generalize lensOk (⟨fl, nm, ds, st, lo, ca, cn, cc, code, ta, tn, tc, traps, ma, mn, mc, maps⟩ : KM) = leB at *
  generalize namesOk L (⟨fl, nm, ds, st, lo, ca, cn, cc, code, ta, tn, tc, traps, ma, mn, mc, maps⟩ : KM) = nmB at *
  have hal : Below w.heap.size w (w.alloc (.cells #[.int .i64 fl, .int .i64 nm, .int .i64 ds, .int .i64 st, .int .i64 lo, .slice ca cn cc, .slice ta tn tc, .slice ma mn mc] 48)) := below_1 _ _
  have HB1 := Lib.hid (show MBk (w.alloc (.cells #[.int .i64 fl, .int .i64 nm, .int .i64 ds, .int .i64 st, .int .i64 lo, .slice ca cn cc, .slice ta tn tc, .slice ma mn mc] 48)) w.heap.size fl nm ds st lo ca cn cc ta tn tc ma mn mc from heap_alloc_last w _)
  have H1 := Lib.hid (h.below hal)
  have HK1 := Lib.hid (Keep1.of (g := g) hal)
  have HW := Lib.hid hb
  have HQ := Lib.hid hq
  have HWg := Lib.hid hg
  have hbg : w.heap.size ≠ g := by have := h.lt; omega
  have HF := Lib.hid hf
  have HFA := Lib.hid (fun w' (hl : Ks w' a n L) => find_any w' a n cap L sCode hl h.sm)
  have HFB := Lib.hid (fun w' (hl : Ks w' a n L) => find_any w' a n cap L sMap hl h.sm)
  unfold sCode at HFA
  unfold sMap at HFB
  clear h hm hb hal hq hf hg HFIN
  go_enter Try.func31, Try.ntmps31
  go_upto_region 1 with fail
  generalize w.alloc (.cells #[.int .i64 fl, .int .i64 nm, .int .i64 ds, .int .i64 st, .int .i64 lo, .slice ca cn cc, .slice ta tn tc, .slice ma mn mc] 48) = W1 at *
  generalize w.heap.size = bm at *
  obtain ⟨c0, c1, c2, c3, c4, c5, c6, c7⟩ := HB1.out.box
  go_wp2_with fail
  refine (lmember_any W1 g a n cap L odd fl nm ds H1.out HF.out).mono ?_
  rintro e w2 ⟨rfl, h2, k2⟩
  have HL := Lib.hid h2
  have HB2 := Lib.hid (HB1.out.keep1 k2 hbg)
  have HK2 := Lib.hid (HK1.out.trans k2)
  generalize membOk L fl nm ds = mbB at *
  clear h2 k2 c0 c1 c2 c3 c4 c5 c6 c7 H1 HB1 HK1
  obtain ⟨c0, c1, c2, c3, c4, c5, c6, c7⟩ := HB2.out.box
  go_upto_region 2 with fail
  go_cut [35] (fun r wx => Hid (LkS wx g a n cap L ((odd || !mbB) || !szB)) ∧ Hid (MBk wx bm fl nm ds st lo ca cn cc ta tn tc ma mn mc) ∧ Hid (Keep1 g w wx))
  case first =>
    by_cases h0 : 0 ≤ st
    · have e0 := decide_eq_true h0
      clear h0
      by_cases h1 : st ≤ 64
      · have e1 := decide_eq_true h1
        clear h1
        by_cases h2 : 0 ≤ lo
        · have e2 := decide_eq_true h2
          clear h2
          by_cases h3 : lo ≤ 64
          · have e3 := decide_eq_true h3
            clear h3
            go_wp2_with fail
            refine (need_any _ g a n cap L _ true HL.out).mono ?_
            rintro e w3 ⟨rfl, h3, k3⟩
            go_wp2_with fail
            go_meet
            refine ⟨Lib.hid ?_, Lib.hid (HB2.out.keep1 k3 hbg), Lib.hid (HK2.out.trans k3)⟩
            rw [show szB = true by rw [HSZ.out]; simp only [e0, e1, e2, e3, Bool.and_true, Bool.and_self, Bool.true_and]]; exact h3
          · have e3 := decide_eq_false h3
            clear h3
            go_wp2_with fail
            refine (need_any _ g a n cap L _ false HL.out).mono ?_
            rintro e w3 ⟨rfl, h3, k3⟩
            go_wp2_with fail
            go_meet
            refine ⟨Lib.hid ?_, Lib.hid (HB2.out.keep1 k3 hbg), Lib.hid (HK2.out.trans k3)⟩
            rw [show szB = false by rw [HSZ.out]; simp only [e0, e1, e2, e3, Bool.and_false, Bool.false_and, Bool.and_true, Bool.true_and]]; exact h3
        · have e2 := decide_eq_false h2
          clear h2
          go_wp2_with fail
          refine (need_any _ g a n cap L _ false HL.out).mono ?_
          rintro e w3 ⟨rfl, h3, k3⟩
          go_wp2_with fail
          go_meet
          refine ⟨Lib.hid ?_, Lib.hid (HB2.out.keep1 k3 hbg), Lib.hid (HK2.out.trans k3)⟩
          rw [show szB = false by rw [HSZ.out]; simp only [e0, e1, e2, Bool.and_false, Bool.false_and, Bool.and_true, Bool.true_and]]; exact h3
      · have e1 := decide_eq_false h1
        clear h1
        go_wp2_with fail
        refine (need_any _ g a n cap L _ false HL.out).mono ?_
        rintro e w3 ⟨rfl, h3, k3⟩
        go_wp2_with fail
        go_meet
        refine ⟨Lib.hid ?_, Lib.hid (HB2.out.keep1 k3 hbg), Lib.hid (HK2.out.trans k3)⟩
        rw [show szB = false by rw [HSZ.out]; simp only [e0, e1, Bool.and_false, Bool.false_and, Bool.and_true, Bool.true_and]]; exact h3
    · have e0 := decide_eq_false h0
      clear h0
      go_wp2_with fail
      refine (need_any _ g a n cap L _ false HL.out).mono ?_
      rintro e w3 ⟨rfl, h3, k3⟩
      go_wp2_with fail
      go_meet
      refine ⟨Lib.hid ?_, Lib.hid (HB2.out.keep1 k3 hbg), Lib.hid (HK2.out.trans k3)⟩
      rw [show szB = false by rw [HSZ.out]; simp only [e0, Bool.and_false, Bool.false_and, Bool.and_true, Bool.true_and]]; exact h3
  case rest =>
    clear c0 c1 c2 c3 c4 c5 c6 c7 HL HB2 HK2
    obtain ⟨HL, HB2, HK2⟩ := hcut
    generalize ((odd || !mbB) || !szB) = od2 at *
    obtain ⟨c0, c1, c2, c3, c4, c5, c6, c7⟩ := HB2.out.box
    go_upto_region 3 with fail
    go_cut [59] (fun r wx => Hid (LkS wx g a n cap L (od2 || !leB)) ∧ Hid (MBk wx bm fl nm ds st lo ca cn cc ta tn tc ma mn mc) ∧ Hid (Keep1 g w wx))
    case first =>
      by_cases h0 : 0 < cn
      · have e0 := decide_eq_true h0
        clear h0
        by_cases h1 : (cn : Int) ≤ 4096
        · have e1 := decide_eq_true h1
          clear h1
          by_cases h2 : (tn : Int) ≤ 255
          · have e2 := decide_eq_true h2
            clear h2
            by_cases h3 : (mn : Int) ≤ 255
            · have e3 := decide_eq_true h3
              clear h3
              go_wp2_with fail
              refine (need_any _ g a n cap L _ true HL.out).mono ?_
              rintro e w3 ⟨rfl, h3, k3⟩
              go_wp2_with fail
              go_meet
              refine ⟨Lib.hid ?_, Lib.hid (HB2.out.keep1 k3 hbg), Lib.hid (HK2.out.trans k3)⟩
              rw [show leB = true by rw [HLE.out]; simp only [e0, e1, e2, e3, Bool.and_true, Bool.and_self, Bool.true_and]]; exact h3
            · have e3 := decide_eq_false h3
              clear h3
              go_wp2_with fail
              refine (need_any _ g a n cap L _ false HL.out).mono ?_
              rintro e w3 ⟨rfl, h3, k3⟩
              go_wp2_with fail
              go_meet
              refine ⟨Lib.hid ?_, Lib.hid (HB2.out.keep1 k3 hbg), Lib.hid (HK2.out.trans k3)⟩
              rw [show leB = false by rw [HLE.out]; simp only [e0, e1, e2, e3, Bool.and_false, Bool.false_and, Bool.and_true, Bool.true_and]]; exact h3
          · have e2 := decide_eq_false h2
            clear h2
            go_wp2_with fail
            refine (need_any _ g a n cap L _ false HL.out).mono ?_
            rintro e w3 ⟨rfl, h3, k3⟩
            go_wp2_with fail
            go_meet
            refine ⟨Lib.hid ?_, Lib.hid (HB2.out.keep1 k3 hbg), Lib.hid (HK2.out.trans k3)⟩
            rw [show leB = false by rw [HLE.out]; simp only [e0, e1, e2, Bool.and_false, Bool.false_and, Bool.and_true, Bool.true_and]]; exact h3
        · have e1 := decide_eq_false h1
          clear h1
          go_wp2_with fail
          refine (need_any _ g a n cap L _ false HL.out).mono ?_
          rintro e w3 ⟨rfl, h3, k3⟩
          go_wp2_with fail
          go_meet
          refine ⟨Lib.hid ?_, Lib.hid (HB2.out.keep1 k3 hbg), Lib.hid (HK2.out.trans k3)⟩
          rw [show leB = false by rw [HLE.out]; simp only [e0, e1, Bool.and_false, Bool.false_and, Bool.and_true, Bool.true_and]]; exact h3
      · have e0 := decide_eq_false h0
        clear h0
        go_wp2_with fail
        refine (need_any _ g a n cap L _ false HL.out).mono ?_
        rintro e w3 ⟨rfl, h3, k3⟩
        go_wp2_with fail
        go_meet
        refine ⟨Lib.hid ?_, Lib.hid (HB2.out.keep1 k3 hbg), Lib.hid (HK2.out.trans k3)⟩
        rw [show leB = false by rw [HLE.out]; simp only [e0, Bool.and_false, Bool.false_and, Bool.and_true, Bool.true_and]]; exact h3
    case rest =>
      clear c0 c1 c2 c3 c4 c5 c6 c7 HL HB2 HK2
      obtain ⟨HL, HB2, HK2⟩ := hcut
      generalize (od2 || !leB) = od3 at *
      obtain ⟨c0, c1, c2, c3, c4, c5, c6, c7⟩ := HB2.out.box
      go_wp2_with fail
      clear c0 c1 c2 c3 c4 c5 c6 c7
      go_loopg [63] tn (fun gn i wr => ∃ j : Nat, j ≤ tn ∧ gn = tn - j ∧ i = .int .i64 j ∧ Hid (LkS wr g a n cap L (od3 || !(traps.take j).all (trapOk L))) ∧ Hid (MBk wr bm fl nm ds st lo ca cn cc ta tn tc ma mn mc) ∧ Hid (Keep1 g w wr))
      case atStart => exact ⟨0, by omega, by omega, by go_num, Lib.hid (by simpa using HL.out), HB2, HK2⟩
      case round =>
        clear HL HB2 HK2
        obtain ⟨j, hj, rfl, rfl, HL, HB2, HK2⟩ := hrel
        by_cases hlt : j < tn
        · obtain ⟨b, off, t, rfl, _, hv, q⟩ := (HT.out.below (HK2.out.below HW.out (Nat.le_refl _) HWg.out)).getC j hlt
          have HA := Lib.hid (show (od3 || !(traps.take (j + 1)).all (trapOk L)) = (((od3 || !(traps.take j).all (trapOk L)) || ![t.fr, t.tt, t.pl].all wideOk) || !(decide (t.cl = 0) || clsOk L t.cl)) by rw [all_take _ _ _ _ hv, odd_next]; unfold trapOk; rw [odd_next])
          obtain ⟨fr, tt, pl, cl⟩ := t
          dsimp only at HA
          have q0 : wr.cell? ⟨b, off + j * 4, none⟩ = some (.int .i64 fr) := q 0 (by omega)
          have q1 : wr.cell? ⟨b, off + j * 4 + 1, none⟩ = some (.int .i64 tt) := q 1 (by omega)
          have q2 : wr.cell? ⟨b, off + j * 4 + 2, none⟩ = some (.int .i64 pl) := q 2 (by omega)
          have q3 : wr.cell? ⟨b, off + j * 4 + 3, none⟩ = some (.int .i64 cl) := q 3 (by omega)
          clear q hv
          generalize (od3 || !(traps.take j).all (trapOk L)) = od at *
          have hj1 : (j : Int) < tn := by omega
          have hb : Below wr.heap.size wr (wr.alloc (.cells #[.int .i64 fr, .int .i64 tt, .int .i64 pl, .int .i64 cl] 98)) := below_1 _ _
          have HL4 := Lib.hid (HL.out.below hb)
          have HB4 := Lib.hid (HB2.out.keep1 (Keep1.of hb) hbg)
          have HK4 := Lib.hid (HK2.out.trans (Keep1.of hb))
          have HT4 := Lib.hid (heap_alloc_last wr (.cells #[.int .i64 fr, .int .i64 tt, .int .i64 pl, .int .i64 cl] 98))
          have htg : wr.heap.size ≠ g := by have := HL.out.lt; omega
          clear hb HL HB2 HK2
          go_upto_region 7 with fail
          clear q0 q1 q2 q3
          generalize wr.alloc (.cells #[.int .i64 fr, .int .i64 tt, .int .i64 pl, .int .i64 cl] 98) = W4 at *
          generalize wr.heap.size = bt at *
          have p0 := row_cell HT4.out 0 rfl
          have p1 := row_cell HT4.out 1 rfl
          have p2 := row_cell HT4.out 2 rfl
          dsimp at p0 p1 p2
          go_wp2_with fail
          have hb5 : Below W4.heap.size W4 (W4.alloc (.cells #[.int .i64 fr, .int .i64 tt, .int .i64 pl] 3)) := below_1 _ _
          refine (wide_any _ g a n cap L _ _ 3 3 [fr, tt, pl] (HL4.out.below hb5) (Sl.litZ W4 3 [fr, tt, pl] 3 rfl) (Off1.new (Ne.symm (Nat.ne_of_lt HL4.out.lt)).symm) (by decide)).mono ?_
          rintro e w6 ⟨rfl, h6, k6⟩
          have hk6 := (Keep1.of (g := g) hb5).trans k6
          have HL6 := Lib.hid h6
          have HB6 := Lib.hid (HB4.out.keep1 hk6 hbg)
          have HK6 := Lib.hid (HK4.out.trans hk6)
          have HT6 := Lib.hid (hk6.blk HT4.out htg)
          clear h6 k6 hk6 hb5 HL4 HB4 HK4 HT4 p0 p1 p2
          have p3 := row_cell HT6.out 3 rfl
          dsimp at p3
          by_cases h0 : cl = 0
          · have e0 : (cl != 0) = false := by simp [h0]
            have HF2 := Lib.hid (show (decide (cl = 0) || clsOk L cl) = true by simp [h0])
            clear h0
            go_wp2_with fail
            go_roundg (tn - (j + 1))
            case measure => omega
            case rel => exact ⟨j + 1, by omega, rfl, by go_num, Lib.hid (by rw [HA.out, HF2.out, Bool.not_true, Bool.or_false]; exact HL6.out), HB6, HK6⟩
          · have e0 : (cl != 0) = true := by simp [h0]
            have HF2 := Lib.hid (show (decide (cl = 0) || clsOk L cl) = clsOk L cl by simp [h0])
            clear h0
            go_wp2_with fail
            refine (lclass_any w6 g a n cap L _ cl HL6.out).mono ?_
            rintro e w7 ⟨rfl, h7, k7⟩
            go_wp2_with fail
            go_roundg (tn - (j + 1))
            case measure => omega
            case rel => exact ⟨j + 1, by omega, rfl, by go_num, Lib.hid (by rw [HA.out, HF2.out]; exact h7), Lib.hid (HB6.out.keep1 k7 hbg), Lib.hid (HK6.out.trans k7)⟩
        · obtain rfl : j = tn := by omega
          have HEX := Lib.hid (show traps.take j = traps by rw [List.take_of_length_le (by rw [HTn.out]; exact Nat.le_refl _)])
          rw [HEX.out] at HL
          generalize (od3 || !traps.all (trapOk L)) = od4 at *
          obtain ⟨c0, c1, c2, c3, c4, c5, c6, c7⟩ := HB2.out.box
          go_wp2_with fail
          clear c0 c1 c2 c3 c4 c5 c6 c7
          go_loopg [87] mn (fun gn iv wr => ∃ i : Nat, i ≤ mn ∧ gn = mn - i ∧ iv = .int .i64 i ∧ Hid (LkS wr g a n cap L (od4 || !(maps.take i).all (mapOk L))) ∧ Hid (MBk wr bm fl nm ds st lo ca cn cc ta j tc ma mn mc) ∧ Hid (Keep1 g w wr))
          case atStart => exact ⟨0, by omega, by omega, by go_num, Lib.hid (by simpa using HL.out), HB2, HK2⟩
          case round =>
            clear HL HB2 HK2
            obtain ⟨i, hi, rfl, rfl, HL, HB2, HK2⟩ := hrel
            by_cases hli : i < mn
            · obtain ⟨b, off, p, rfl, _, hv, q⟩ := (HP.out.below (HK2.out.below HW.out (Nat.le_refl _) HWg.out)).getC i hli
              have HA := Lib.hid (show (od4 || !(maps.take (i + 1)).all (mapOk L)) = ((((od4 || !(maps.take i).all (mapOk L)) || ![p.pl].all wideOk) || !slotsOk L 64 p.loc) || !slotsOk L 64 p.stk) by rw [all_take _ _ _ _ hv, odd_next]; unfold mapOk; rw [odd_next, odd_next]; simp)
              have HR := Lib.hid (HE.out p (List.mem_of_getElem? hv))
              have hpq := HQ.out p (List.mem_of_getElem? hv)
              obtain ⟨pl, la, ln, lc, loc, sa, sn, sc, stk⟩ := p
              dsimp only at HA hpq
              obtain ⟨hpl, hps⟩ := hpq
              have HRL := Lib.hid (show Ss 2 KS.cells W0 la ln loc from HR.out.loc)
              have HRS := Lib.hid (show Ss 2 KS.cells W0 sa sn stk from HR.out.stk)
              have q0 : wr.cell? ⟨b, off + i * 3, none⟩ = some (.int .i64 pl) := q 0 (by omega)
              have q1 : wr.cell? ⟨b, off + i * 3 + 1, none⟩ = some (.slice la ln lc) := q 1 (by omega)
              have q2 : wr.cell? ⟨b, off + i * 3 + 2, none⟩ = some (.slice sa sn sc) := q 2 (by omega)
              clear q hv HR
              generalize (od4 || !(maps.take i).all (mapOk L)) = od at *
              have hi1 : (i : Int) < mn := by omega
              have hb : Below wr.heap.size wr (wr.alloc (.cells #[.int .i64 pl, .slice la ln lc, .slice sa sn sc] 51)) := below_1 _ _
              have HL4 := Lib.hid (HL.out.below hb)
              have HB4 := Lib.hid (HB2.out.keep1 (Keep1.of hb) hbg)
              have HK4 := Lib.hid (HK2.out.trans (Keep1.of hb))
              have HT4 := Lib.hid (heap_alloc_last wr (.cells #[.int .i64 pl, .slice la ln lc, .slice sa sn sc] 51))
              have htg : wr.heap.size ≠ g := by have := HL.out.lt; omega
              clear hb HL HB2 HK2
              go_upto_region 14 with fail
              clear q0 q1 q2
              generalize wr.alloc (.cells #[.int .i64 pl, .slice la ln lc, .slice sa sn sc] 51) = W4 at *
              generalize wr.heap.size = bt at *
              have p0 := row_cell HT4.out 0 rfl
              dsimp at p0
              go_wp2_with fail
              have hb5 : Below W4.heap.size W4 (W4.alloc (.cells #[.int .i64 pl] 3)) := below_1 _ _
              refine (wide_any _ g a n cap L _ _ 1 1 [pl] (HL4.out.below hb5) (Sl.litZ W4 1 [pl] 3 rfl) (Off1.new (Ne.symm (Nat.ne_of_lt HL4.out.lt)).symm) (by decide)).mono ?_
              rintro e w6 ⟨rfl, h6, k6⟩
              have hk6 := (Keep1.of (g := g) hb5).trans k6
              have HL6 := Lib.hid h6
              have HB6 := Lib.hid (HB4.out.keep1 hk6 hbg)
              have HK6 := Lib.hid (HK4.out.trans hk6)
              have HT6 := Lib.hid (hk6.blk HT4.out htg)
              clear h6 k6 hk6 hb5 HL4 HB4 HK4 HT4 p0
              have p1 := row_cell HT6.out 1 rfl
              dsimp at p1
              have HW6 := Lib.hid (HK6.out.below HW.out (Nat.le_refl _) HWg.out)
              go_wp2_with fail
              refine (lslots_any w6 g a n cap L _ la ln lc loc 64 HL6.out (HRL.out.below HW6.out) (Off1.oldS HRL.out HWg.out) hpl).mono ?_
              rintro e w7 ⟨rfl, h7, k7⟩
              have HL7 := Lib.hid h7
              have HB7 := Lib.hid (HB6.out.keep1 k7 hbg)
              have HK7 := Lib.hid (HK6.out.trans k7)
              have HT7 := Lib.hid (k7.blk HT6.out htg)
              clear h7 k7 HL6 HB6 HK6 HT6 HW6 p1
              have p2 := row_cell HT7.out 2 rfl
              dsimp at p2
              have HW7 := Lib.hid (HK7.out.below HW.out (Nat.le_refl _) HWg.out)
              go_wp2_with fail
              refine (lslots_any w7 g a n cap L _ sa sn sc stk 64 HL7.out (HRS.out.below HW7.out) (Off1.oldS HRS.out HWg.out) hps).mono ?_
              rintro e w8 ⟨rfl, h8, k8⟩
              go_wp2_with fail
              go_roundg (mn - (i + 1))
              case measure => omega
              case rel => exact ⟨i + 1, by omega, rfl, by go_num, Lib.hid (by rw [HA.out]; exact h8), Lib.hid (HB7.out.keep1 k8 hbg), Lib.hid (HK7.out.trans k8)⟩
            · obtain rfl : i = mn := by omega
              have HEX := Lib.hid (show maps.take i = maps by rw [List.take_of_length_le (by rw [HPn.out]; exact Nat.le_refl _)])
              rw [HEX.out] at HL
              generalize (od4 || !maps.all (mapOk L)) = od5 at *
              have HNM := Lib.hid (show nmB = (decide (0 < findT L [67, 111, 100, 101]) && (((i : Int) == 0) || decide (0 < findT L [83, 116, 97, 99, 107, 77, 97, 112]))) from by rw [HNM.out]; simp only [sCode, sMap, Int.natCast_pos])
              generalize findT L [67, 111, 100, 101] = f1 at *
              generalize findT L [83, 116, 97, 99, 107, 77, 97, 112] = f2 at *
              obtain ⟨c0, c1, c2, c3, c4, c5, c6, c7⟩ := HB2.out.box
              obtain ⟨k0, k1, fr0, fr1, lt0⟩ := HL.out.k.box
              go_wp2_with fail
              refine (HFA.out wr HL.out.ks).mono ?_
              rintro e w8 ⟨rfl, hb8⟩
              have HL8 := Lib.hid (HL.out.below hb8)
              have HK8 := Lib.hid (HK2.out.trans (Keep1.of hb8))
              have HB8 := Lib.hid (HB2.out.keep1 (Keep1.of hb8) hbg)
              clear c0 c1 c2 c3 c4 c5 c6 c7 k0 k1 fr0 fr1 lt0 hb8 HL HB2 HK2
              obtain ⟨c0, c1, c2, c3, c4, c5, c6, c7⟩ := HB8.out.box
              obtain ⟨k0, k1, fr0, fr1, lt0⟩ := HL8.out.k.box
              by_cases g1 : 0 < f1
              · have e1 := decide_eq_true g1
                clear g1
                by_cases g2 : i = 0
                · have e2 : ((i : Int) == 0) = true := by simp [g2]
                  clear g2
                  have HLZ := HL8
                  have HKZ := HK8
                  go_wp2_with fail
                  refine (need_any _ g a n cap L _ true HLZ.out).mono ?_
                  rintro e w9 ⟨rfl, h9, k9⟩
                  go_wp2_with fail
                  go_end0
                  exact ⟨rfl, by rw [show nmB = true by rw [HNM.out]; simp only [e1, e2, Bool.and_true, Bool.true_and, Bool.false_and, Bool.or_true, Bool.true_or, Bool.or_false, Bool.false_or, Bool.and_false]]; exact h9, HKZ.out.trans k9⟩
                · have e2 : ((i : Int) == 0) = false := by simp [g2]
                  clear g2
                  go_wp2_with fail
                  refine (HFB.out w8 HL8.out.ks).mono ?_
                  rintro e wz ⟨rfl, hbz⟩
                  have HLZ := Lib.hid (HL8.out.below hbz)
                  have HKZ := Lib.hid (HK8.out.trans (Keep1.of hbz))
                  clear hbz
                  by_cases g3 : 0 < f2
                  · have e3 := decide_eq_true g3
                    clear g3
                    go_wp2_with fail
                    refine (need_any _ g a n cap L _ true HLZ.out).mono ?_
                    rintro e w9 ⟨rfl, h9, k9⟩
                    go_wp2_with fail
                    go_end0
                    exact ⟨rfl, by rw [show nmB = true by rw [HNM.out]; simp only [e1, e2, e3, Bool.and_true, Bool.true_and, Bool.false_and, Bool.or_true, Bool.true_or, Bool.or_false, Bool.false_or, Bool.and_false]]; exact h9, HKZ.out.trans k9⟩
                  · have e3 := decide_eq_false g3
                    clear g3
                    go_wp2_with fail
                    refine (need_any _ g a n cap L _ false HLZ.out).mono ?_
                    rintro e w9 ⟨rfl, h9, k9⟩
                    go_wp2_with fail
                    go_end0
                    exact ⟨rfl, by rw [show nmB = false by rw [HNM.out]; simp only [e1, e2, e3, Bool.and_true, Bool.true_and, Bool.false_and, Bool.or_true, Bool.true_or, Bool.or_false, Bool.false_or, Bool.and_false]]; exact h9, HKZ.out.trans k9⟩
              · have e1 := decide_eq_false g1
                clear g1
                have HLZ := HL8
                have HKZ := HK8
                go_wp2_with fail
                refine (need_any _ g a n cap L _ false HLZ.out).mono ?_
                rintro e w9 ⟨rfl, h9, k9⟩
                go_wp2_with fail
                go_end0
                exact ⟨rfl, by rw [show nmB = false by rw [HNM.out]; simp only [e1, Bool.and_true, Bool.true_and, Bool.false_and, Bool.or_true, Bool.true_or, Bool.or_false, Bool.false_or, Bool.and_false]]; exact h9, HKZ.out.trans k9⟩
end Go.Proofs.Ytnfhiakdbakpgaa
