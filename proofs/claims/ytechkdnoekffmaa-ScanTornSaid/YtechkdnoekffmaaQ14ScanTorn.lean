/- scan: the walk of ScanTorn. No condition. -/
import Derived.Test.YtechkdnoekffmaaQ09ScanTorn
import Derived.Test.YtechkdnoekffmaaQ13ScanTorn
namespace Go.Proofs.Ytechkdnoekffmaa
open Go.ChangeShapes Go.WideShapes Go.ChangeAt Go.RowKit
/-- What lies there behind j changes. -/
structure LaidT (w : World) (j : Nat) (vb : Value) (R : List RV) (wr : World) : Prop where
  len : R.length = j
  ok : ∀ r ∈ R, r.ok ∧ r.len ≤ 300 ∧ r.t = 2 ∧ r.u.toNat ≠ 3
  row : wr.ownsRow w.heap.size 5 1 vb (total R) ((R.flatMap RV.bytes).map encB)
  below : Below w.heap.size w wr
theorem total_smallT {R : List RV} (h : ∀ r ∈ R, r.len ≤ 300) : total R ≤ 300 * R.length := by
  induction R with
  | nil => simp [total]
  | cons r R ih =>
    have h1 := h r (by simp)
    have h2 := ih (fun x hx => h x (by simp [hx]))
    simp [total]; omega
set_option maxRecDepth 100000 in
set_option maxHeartbeats 16000000 in
theorem walk0_ScanTorn (w : World) (a : Option Addr) (n cap : Nat) (cut mask : Nat) (hr : IsChs w a n cap) (hcut : cut < 65536) (hmask : mask < 256) :
    Calls Try.prog 4 #[.slice a n cap, .int .u16 cut, .int .u8 mask] w fun e w' => e = .returned (.bool true) ∧ Below w.heap.size w w' := by
  obtain ⟨hc, hm, hrec⟩ := hr
  obtain ⟨mk, rfl⟩ : ∃ u : UInt8, mask = u.toNat := ⟨UInt8.ofNat mask, (UInt8.toNat_ofNat_of_lt' hmask).symm⟩
  unfold maxLen at hm
  have HR := Lib.hid hrec
  clear hrec
  go_enter Try.func4, Try.ntmps4
  go_wp2_with fail
  refine (fixed06 w).mono ?_
  rintro e w1 ⟨rfl, hb1⟩
  have H1 := Lib.hid hb1
  clear hb1
  by_cases h16 : 16 < n
  · have z : ((16 : Int) < n) := by omega
    go_wp2_with fail
    go_ret
    exact ⟨rfl, H1.out⟩
  have z : ¬ ((16 : Int) < n) := by omega
  by_cases hn0 : n = 0
  · subst hn0
    go_wp2_with fail
    go_ret
    exact ⟨rfl, H1.out⟩
  have z0 : ((n : Int) == 0) = false := by simp; omega
  clear h16
  go_wp2_with fail
  refine (refBytes5_own w1 1 1 firstK none 0 0 [] 0 (Sl.nil _ _) (by decide) (by decide)).mono ?_
  rintro e w2 ⟨v2, m2, rfl, ho2, hb2⟩
  obtain rfl : m2 = 20 := by have h := ho2.1; rw [List.length_map, recB_length] at h; simp [firstK] at h; exact h.symm
  have HO2 := Lib.hid ho2
  have HB2 := Lib.hid hb2
  clear ho2 hb2
  go_wp2_with (at_builtin; first
    | (refine wpList_app_lit oneB rfl _ _ rfl w1.heap.size _ 20 _ rfl HO2.out _ 1 _ rfl rfl rfl (by omega) (by unfold maxLen; omega) HB2.out.size ?_; intro v3 w3 hown3 hg3 hb3; have HO3 := Lib.hid hown3; have HB3 := Lib.hid (HB2.out.trans hb3); clear hown3 hg3 hb3 HO2))
  refine (refBytes5_own w3 3 1 [] none 0 0 [] 1 (Sl.nil _ _) (by decide) (by decide)).mono ?_
  rintro e w4 ⟨v4, m4, rfl, ho4, hb4⟩
  obtain rfl : m4 = 15 := by have h := ho4.1; rw [List.length_map, recB_length] at h; simp at h; exact h.symm
  have HO4 := Lib.hid ho4
  have HB4 := Lib.hid hb4
  clear ho4 hb4
  go_wp2_with (at_builtin; first
    | (refine wpList_app1 oneB rfl _ _ _ rfl w1.heap.size _ _ _ rfl HO35.out _ 16 _ rfl (HS5.out.src encB_cell Try.underlying24 c5) (by omega) (by unfold maxLen; omega) HB35.out.size ?_; intro v6 w6 hown6 hg6 hb6; have HO6 := Lib.hid hown6; have HB6 := Lib.hid (HB35.out.trans hb6); clear hown6 hg6 hb6)
    | (refine wpList_app_lit oneB rfl _ _ rfl w3.heap.size _ 15 _ rfl HO4.out _ 1 _ rfl rfl rfl (by omega) (by unfold maxLen; omega) HB4.out.size ?_; intro v5 w5 hown5 hg5 hb5; obtain ⟨a5, c5, rfl, hs5, hc5⟩ := Sl.ofOwn (xs := recB 3 1 [] [] 1 ++ [0]) (by rw [List.map_append]; exact hown5); have HS5 := Lib.hid hs5; have HB45 := Lib.hid (HB4.out.trans hb5); have HO35 := Lib.hid (own_below HO3.out HB45.out); have HB35 := Lib.hid (HB3.out.trans (HB45.out.mono HB3.out.size)); clear hown5 hg5 hb5 hs5))
  have HV := Lib.hid (show w6.ownsRow w1.heap.size 5 1 v6 37 (firstB.map encB) from by
    have h := HO6.out
    have e : firstB = recB 1 1 firstK [] 0 ++ [0] ++ (recB 3 1 [] [] 1 ++ [0]) := by unfold firstB firstR firstC RV.bytes; simp
    rw [e, List.map_append, List.map_append]
    exact h)
  have HB := Lib.hid (H1.out.trans (HB6.out.mono H1.out.size))
  have HBV := Lib.hid HB6.out
  have HBW := Lib.hid HB.out
  have HBW0 := Lib.hid H1.out
  have HRW := Lib.hid (show 0 < n → ∃ b off, a = some ⟨b, off, none⟩ ∧ b < w6.heap.size ∧ ∀ i, i < n → ∃ del kb x m cm ds, ChAt w6 b (off + i * 3) del kb x m cm ds from fun h => by
    obtain ⟨b, off, ha, hl, hk⟩ := HR.out h
    refine ⟨b, off, ha, Nat.lt_of_lt_of_le hl HB.out.size, fun i hi => ?_⟩
    obtain ⟨del, kb, x, m, cm, ds, q⟩ := hk i hi
    exact ⟨del, kb, x, m, cm, ds, q.below HB.out⟩)
  clear HO6 HO35 HB35 HB45 HS5 HO4 HB4 HO3 HB3 HB2 HB6 H1 HR
  go_loopg [8, 39] n (fun gn vb i wr => ∃ (j : Nat) (R : List RV), j ≤ n ∧ gn = n - j ∧ i = .int .i64 j ∧ Hid (LaidT w6 j vb R wr))
  case atStart => exact ⟨0, [], by omega, by omega, by go_num, Lib.hid ⟨rfl, (fun r h => by cases h), World.ownsRow_nil _ _ _ _, Below.refl _ _⟩⟩
  case round =>
    obtain ⟨j, R, hj, rfl, rfl, HL⟩ := hrel
    by_cases hlt : j < n
    · obtain ⟨b, off, rfl, hb, hrr⟩ := HRW.out (by omega)
      obtain ⟨del, kb, y, m, cm, ds, hA⟩ := hrr j hlt
      have hA2 := hA.below HL.out.below
      obtain ⟨c0, c1, c2, hsl, hmc⟩ := hA2
      have HSL := Lib.hid hsl
      have HA := Lib.hid hA
      clear hrr hA hsl
      go_upto_region 10 with fail
      have hal : Below wr.heap.size wr (wr.alloc (.cells #[.bool del, .string ⟨kb.toArray⟩, .slice y m cm] 41)) := (Below.refl _ _).alloc (Nat.le_refl _) _
      have hX := heap_alloc_last wr (.cells #[.bool del, .string ⟨kb.toArray⟩, .slice y m cm] 41)
      have HBA := Lib.hid hal
      have hzA := hal.size
      clear c0 c1 c2 hal
      have xlt := (Array.getElem?_eq_some_iff.1 hX).1
      generalize wr.alloc (.cells #[.bool del, .string ⟨kb.toArray⟩, .slice y m cm] 41) = WA at *
      have x0 : WA.cell? ⟨wr.heap.size, 0, none⟩ = some (.bool del) := by rw [cell_of_row WA _ 0 _ _ _ hX]; rfl
      have x1 : WA.cell? ⟨wr.heap.size, 1, none⟩ = some (.string ⟨kb.toArray⟩) := by rw [cell_of_row WA _ 1 _ _ _ hX]; rfl
      have x2 : WA.cell? ⟨wr.heap.size, 2, none⟩ = some (.slice y m cm) := by rw [cell_of_row WA _ 2 _ _ _ hX]; rfl
      go_upto_region 11 with fail
      have halB : Below WA.heap.size WA (WA.alloc (.cells #[.int .i64 1, .int .u32 2, .string ⟨kb.toArray⟩, .slice y m cm, .int .i64 0] 28)) := (Below.refl _ _).alloc (Nat.le_refl _) _
      have HK := Lib.hid (show Blk5 (WA.alloc (.cells #[.int .i64 1, .int .u32 2, .string ⟨kb.toArray⟩, .slice y m cm, .int .i64 0] 28)) WA.heap.size (.int .i64 1) (.int .u32 2) (.string ⟨kb.toArray⟩) (.slice y m cm) (.int .i64 0) 28 from heap_alloc_last WA _)
      have HBB := Lib.hid (HBA.out.trans (halB.mono hzA))
      replace x0 := cell_below halB x0
      replace x1 := cell_below halB x1
      have xlt2 : wr.heap.size < WA.heap.size := xlt
      have hgB : wr.heap.size ≤ WA.heap.size := Nat.le_of_lt xlt
      clear x2 hX halB HBA
      generalize WA.alloc (.cells #[.int .i64 1, .int .u32 2, .string ⟨kb.toArray⟩, .slice y m cm, .int .i64 0] 28) = WB at *
      generalize WA.heap.size = gB at *
      obtain ⟨p0, p1, p2, p3, p4, f0, f1, f2, f3, f4, lt1⟩ := HK.out.box
      have hne : wr.heap.size ≠ gB := by omega
      cases del with
      | true =>
        go_upto_region 13 with fail
        have HKC := Lib.hid (show Blk5 (((((WB.setCell ⟨gB, 0, none⟩ (.int .i64 2)).setCell ⟨gB, 1, none⟩ (.int .u32 2)).setCell ⟨gB, 2, none⟩ (.string ⟨kb.toArray⟩)).setCell ⟨gB, 3, none⟩ (.slice none 0 0)).setCell ⟨gB, 4, none⟩ (.int .i64 0)) gB (.int .i64 2) (.int .u32 2) (.string ⟨kb.toArray⟩) (.slice none 0 0) (.int .i64 0) 28 from HK.out.set)
        have HBC := Lib.hid (HBB.out.trans ((keep55 gB WB (.int .i64 2) (.int .u32 2) (.string ⟨kb.toArray⟩) (.slice none 0 0) (.int .i64 0)).mono hgB))
        have hzC := HBC.out.size
        clear p0 p1 p2 p3 p4 f0 f1 f2 f3 f4 lt1 x0 x1 HK HBB
        generalize (((((WB.setCell ⟨gB, 0, none⟩ (.int .i64 2)).setCell ⟨gB, 1, none⟩ (.int .u32 2)).setCell ⟨gB, 2, none⟩ (.string ⟨kb.toArray⟩)).setCell ⟨gB, 3, none⟩ (.slice none 0 0)).setCell ⟨gB, 4, none⟩ (.int .i64 0)) = WC at *
        obtain ⟨p0, p1, p2, p3, p4, f0, f1, f2, f3, f4, lt1⟩ := HKC.out.box
        go_wp2_with fail
        refine (refRight5_all WC 2 2 kb none 0 0 0 (by unfold IntR; omega) (by omega) (by unfold IntR; omega)).mono ?_
        rintro e WD ⟨rfl, hbD⟩
        have HKD := Lib.hid (HKC.out.below hbD)
        have HBD := Lib.hid (HBC.out.trans (hbD.mono hzC))
        have HE3 := Lib.hid (HB.out.trans ((HL.out.below.trans (HBD.out.mono HL.out.below.size)).mono HB.out.size))
        clear p0 p1 p2 p3 p4 f0 f1 f2 f3 f4 lt1 hbD HKC HBC
        obtain ⟨p0, p1, p2, p3, p4, f0, f1, f2, f3, f4, lt1⟩ := HKD.out.box
        cases hro : recOk 2 2 kb.length 0 0 with
        | false =>
          go_wp2_with fail
          go_ret
          exact ⟨rfl, HE3.out⟩
        | true =>
          by_cases h200 : 200 < 0
          · omega
          · have z2 : ¬ (200 : Int) < 0 := by omega
            have hdd := of_decide_eq_true hro
            have hk64 : kb.length ≤ 64 := by omega
            have HRO := Lib.hid hro
            have HSD := Lib.hid (show Sl encB WD none 0 [] from Sl.nil _ _)
            have hml := HSD.out.1
            have HML := Lib.hid hml
            have hts := total_smallT (fun r hr => (HL.out.ok r hr).2.1)
            rw [HL.out.len] at hts
            have HTS := Lib.hid hts
            have hm200 : 0 ≤ 200 := by omega
            have HWD := Lib.hid (own_below HL.out.row HBD.out)
            have HLD := Lib.hid (HL.out.below.trans (HBD.out.mono HL.out.below.size))
            clear hdd hro hml hts h200
            go_wp2_with fail
            refine (refBytes5_any WD 2 2 kb none 0 0 [] 0 HSD.out HRO.out (by decide)).mono ?_
            rintro e W5 ⟨a5, n5, c5, rfl, hs5, hc5, hb5⟩
            have hl5 := hs5.1
            rw [recB_length] at hl5
            have HS5 := Lib.hid hs5
            have HW5 := Lib.hid (own_below HWD.out hb5)
            have HE5 := Lib.hid (HLD.out.trans (hb5.mono HLD.out.size))
            have hn5 : n5 ≤ 65536 := by have := HML.out; omega
            have htp : total R ≤ 65536 := by have := HTS.out; omega
            have HL5 := Lib.hid hl5
            clear hs5 hb5 hl5 p0 p1 p2 p3 p4 f0 f1 f2 f3 f4 lt1 HKD HWD HLD HBD HE3
            go_wp2_with (at_builtin; first
              | (refine wpList_app_lit oneB rfl _ _ rfl w6.heap.size _ _ _ rfl HW6.out _ 1 _ rfl rfl rfl (by omega) (by unfold maxLen; omega) HE6.out.size ?_; intro v7 w7 hown7 hg7 hb7; have HW7 := Lib.hid hown7; have HE7 := Lib.hid (HE6.out.trans hb7); clear hown7 hg7 hb7)
              | (refine wpList_app1 oneB rfl _ _ _ rfl w6.heap.size _ _ _ rfl HW5.out _ _ _ rfl (HS5.out.src encB_cell Try.underlying24 _) (by omega) (by unfold maxLen; omega) HE5.out.size ?_; intro v6' w6' hown6 hg6 hb6; have HW6 := Lib.hid hown6; have HE6 := Lib.hid (HE5.out.trans hb6); clear hown6 hg6 hb6))
            have HN := Lib.hid (show LaidT w6 (j + 1) v7 (R ++ [⟨2, 2, kb, [], 0⟩]) w7 from by
              have h1 := HL5.out
              have h2 := HML.out
              have h3 := HRO.out
              refine ⟨by simp [HL.out.len], fun r hr => ?_, ?_, HE7.out⟩
              · rcases List.mem_append.1 hr with hr | hr
                · exact HL.out.ok r hr
                · rw [List.mem_singleton.1 hr]
                  exact ⟨⟨by rw [← h2] at h3; exact h3, show (2 : Nat) < 4294967296 by decide⟩, by unfold RV.len; simp only; omega, rfl, show (2 : UInt8).toNat ≠ 3 by decide⟩
              · have h := HW7.out
                have e1 : total R + n5 + 1 = total (R ++ [⟨2, 2, kb, [], 0⟩]) := by rw [total_append]; simp only [total, RV.len]; omega
                rw [e1] at h
                rw [show List.map encB ((R ++ [(⟨2, 2, kb, [], 0⟩ : RV)]).flatMap RV.bytes) = List.map encB (R.flatMap RV.bytes) ++ List.map encB (recB 2 2 kb [] 0) ++ [.int .u8 0] by simp [List.flatMap_append, RV.bytes, encB]]
                exact h)
            go_roundg (n - (j + 1))
            case measure => omega
            case rel => exact ⟨j + 1, _, by omega, rfl, by go_num, HN⟩
      | false =>
        go_upto_region 13 with fail
        have HKC := Lib.hid HK.out
        have HBC := Lib.hid HBB.out
        have hzC := HBC.out.size
        clear p0 p1 p2 p3 p4 f0 f1 f2 f3 f4 lt1 x0 x1 HK HBB
        obtain ⟨p0, p1, p2, p3, p4, f0, f1, f2, f3, f4, lt1⟩ := HKC.out.box
        go_wp2_with fail
        refine (refRight5_all WB 1 2 kb y m cm 0 (by unfold IntR; omega) (by omega) (by unfold IntR; omega)).mono ?_
        rintro e WD ⟨rfl, hbD⟩
        have HKD := Lib.hid (HKC.out.below hbD)
        have HBD := Lib.hid (HBC.out.trans (hbD.mono hzC))
        have HE3 := Lib.hid (HB.out.trans ((HL.out.below.trans (HBD.out.mono HL.out.below.size)).mono HB.out.size))
        clear p0 p1 p2 p3 p4 f0 f1 f2 f3 f4 lt1 hbD HKC HBC
        obtain ⟨p0, p1, p2, p3, p4, f0, f1, f2, f3, f4, lt1⟩ := HKD.out.box
        cases hro : recOk 1 2 kb.length m 0 with
        | false =>
          go_wp2_with fail
          go_ret
          exact ⟨rfl, HE3.out⟩
        | true =>
          by_cases h200 : 200 < m
          · have z2 : (200 : Int) < m := by omega
            go_wp2_with fail
            go_ret
            exact ⟨rfl, HE3.out⟩
          · have z2 : ¬ (200 : Int) < m := by omega
            have hdd := of_decide_eq_true hro
            have hk64 : kb.length ≤ 64 := by omega
            have HRO := Lib.hid hro
            have HSD := Lib.hid (show Sl encB WD y m ds from (HA.out.sl.below (HL.out.below.trans (HBD.out.mono HL.out.below.size))))
            have hml := HSD.out.1
            have HML := Lib.hid hml
            have hts := total_smallT (fun r hr => (HL.out.ok r hr).2.1)
            rw [HL.out.len] at hts
            have HTS := Lib.hid hts
            have hm200 : m ≤ 200 := by omega
            have HWD := Lib.hid (own_below HL.out.row HBD.out)
            have HLD := Lib.hid (HL.out.below.trans (HBD.out.mono HL.out.below.size))
            clear hdd hro hml hts h200
            go_wp2_with fail
            refine (refBytes5_any WD 1 2 kb y m cm ds 0 HSD.out HRO.out (by decide)).mono ?_
            rintro e W5 ⟨a5, n5, c5, rfl, hs5, hc5, hb5⟩
            have hl5 := hs5.1
            rw [recB_length] at hl5
            have HS5 := Lib.hid hs5
            have HW5 := Lib.hid (own_below HWD.out hb5)
            have HE5 := Lib.hid (HLD.out.trans (hb5.mono HLD.out.size))
            have hn5 : n5 ≤ 65536 := by have := HML.out; omega
            have htp : total R ≤ 65536 := by have := HTS.out; omega
            have HL5 := Lib.hid hl5
            clear hs5 hb5 hl5 p0 p1 p2 p3 p4 f0 f1 f2 f3 f4 lt1 HKD HWD HLD HBD HE3
            go_wp2_with (at_builtin; first
              | (refine wpList_app_lit oneB rfl _ _ rfl w6.heap.size _ _ _ rfl HW6.out _ 1 _ rfl rfl rfl (by omega) (by unfold maxLen; omega) HE6.out.size ?_; intro v7 w7 hown7 hg7 hb7; have HW7 := Lib.hid hown7; have HE7 := Lib.hid (HE6.out.trans hb7); clear hown7 hg7 hb7)
              | (refine wpList_app1 oneB rfl _ _ _ rfl w6.heap.size _ _ _ rfl HW5.out _ _ _ rfl (HS5.out.src encB_cell Try.underlying24 _) (by omega) (by unfold maxLen; omega) HE5.out.size ?_; intro v6' w6' hown6 hg6 hb6; have HW6 := Lib.hid hown6; have HE6 := Lib.hid (HE5.out.trans hb6); clear hown6 hg6 hb6))
            have HN := Lib.hid (show LaidT w6 (j + 1) v7 (R ++ [⟨1, 2, kb, ds, 0⟩]) w7 from by
              have h1 := HL5.out
              have h2 := HML.out
              have h3 := HRO.out
              refine ⟨by simp [HL.out.len], fun r hr => ?_, ?_, HE7.out⟩
              · rcases List.mem_append.1 hr with hr | hr
                · exact HL.out.ok r hr
                · rw [List.mem_singleton.1 hr]
                  exact ⟨⟨by rw [← h2] at h3; exact h3, show (2 : Nat) < 4294967296 by decide⟩, by unfold RV.len; simp only; omega, rfl, show (1 : UInt8).toNat ≠ 3 by decide⟩
              · have h := HW7.out
                have e1 : total R + n5 + 1 = total (R ++ [⟨1, 2, kb, ds, 0⟩]) := by rw [total_append]; simp only [total, RV.len]; omega
                rw [e1] at h
                rw [show List.map encB ((R ++ [(⟨1, 2, kb, ds, 0⟩ : RV)]).flatMap RV.bytes) = List.map encB (R.flatMap RV.bytes) ++ List.map encB (recB 1 2 kb ds 0) ++ [.int .u8 0] by simp [List.flatMap_append, RV.bytes, encB]]
                exact h)
            go_roundg (n - (j + 1))
            case measure => omega
            case rel => exact ⟨j + 1, _, by omega, rfl, by go_num, HN⟩
    · obtain rfl : n = j := by omega
      obtain ⟨va, vc, rfl⟩ : ∃ a c, u8 = .slice a (total R) c := by
        rcases HL.out.row.2 with ⟨rfl, h0⟩ | ⟨g, cap, cur, rfl, _⟩
        · exact ⟨none, 0, by rw [h0]⟩
        · exact ⟨_, _, rfl⟩
      have hts := total_smallT (fun r hr => (HL.out.ok r hr).2.1)
      rw [HL.out.len] at hts
      obtain ⟨N, hN⟩ : ∃ N, N = total R + 15 + 1 := ⟨_, rfl⟩
      have hNb : N ≤ 5000 := by omega
      have hN0 : 0 < N := by omega
      have htp : total R ≤ 5000 := by omega
      have HN := Lib.hid hN
      have hro : recOk (UInt8.toNat 3) ((2 : Nat) : Int) ([] : List UInt8).length 0 (n : Int) = true := by
        unfold recOk
        refine decide_eq_true ⟨by decide, .inr (.inr ⟨rfl, rfl, rfl, by omega, by omega⟩)⟩
      have HRO := Lib.hid hro
      clear hts hN hro
      obtain ⟨k, hk⟩ : ∃ k, k = cut % N := ⟨_, rfl⟩
      have hkN : k < N := by rw [hk]; exact Nat.mod_lt _ hN0
      have erem : (cut : Int) % (N : Int) = (k : Int) := by rw [hk]; norm_cast
      have kN1 : (k : Int) < (N : Int) := by omega
      have kN2 : (k : Int) ≤ (N : Int) := by omega
      have hNz : ((N : Int) == 0) = false := by simp; omega
      obtain ⟨x8, hx8⟩ : ∃ x8, x8 = ((R ++ [(⟨3, 2, [], [], n⟩ : RV)]).flatMap RV.bytes).getD k 0 := ⟨_, rfl⟩
      have HX8 := Lib.hid hx8
      clear hx8
      have hor := u8_or x8 mk
      have HTT := Lib.hid (total_append R [(⟨3, 2, [], [], n⟩ : RV)])
      have hok2 : ∀ r ∈ R, r.ok := fun r hr => (HL.out.ok r hr).1
      have hcmo : (⟨3, 2, [], [], n⟩ : RV).ok := ⟨HRO.out, show (2 : Nat) < 4294967296 by decide⟩
      have hNT : N = total (R ++ [(⟨3, 2, [], [], n⟩ : RV)]) := by rw [HN.out, HTT.out]; simp [total, RV.len]
      have HTA := Lib.hid (fun (h : ¬ (k + 1 = N ∧ mk = 0)) => torn_all R ⟨3, 2, [], [], n⟩ hok2 hcmo k mk (by rw [← hNT]; exact hkN) (by rw [← hNT]; exact h))
      clear hk hok2 hcmo hNT
      go_wp2_with fail
      refine (refBytes5_any wr 3 2 [] none 0 0 [] n (Sl.nil _ _) HRO.out (by decide)).mono ?_
      rintro e W1 ⟨a1, n1, c1, rfl, hs1, hc1, hb1⟩
      obtain rfl : n1 = 15 := by have h := hs1.1; rw [recB_length] at h; simp at h; exact h.symm
      have HS1 := Lib.hid hs1
      have HW1 := Lib.hid (own_below HL.out.row hb1)
      have HE1 := Lib.hid (HL.out.below.trans (hb1.mono HL.out.below.size))
      clear hs1 hb1 hc1
      by_cases hlm : k + 1 = N ∧ mk = 0
      · have q1 : ((k : Int) == (N : Int) - 1) = true := by simp; omega
        have q2 : ((mk.toNat : Int) == 0) = true := by rw [hlm.2]; rfl
        clear hlm
        go_wp2_with (at_builtin; first
          | (refine wpList_app_lit oneB rfl _ _ rfl w8.heap.size _ k _ rfl HO9.out #[.int .u8 ((x8 ||| mk).toNat : Int)] 1 _ (by first | rfl | (go_simp; done) | (simp; done)) rfl rfl (by omega) (by unfold maxLen; omega) HB9.out.size ?_; intro v10 w10 hown10 hg10 hb10; obtain ⟨a10, c10, rfl, hs10, hc10⟩ := Sl.ofOwn (xs := tornB ((R ++ [(⟨3, 2, [], [], n⟩ : RV)]).flatMap RV.bytes) k mk) (by unfold tornB; rw [← HX8.out, List.map_append]; exact hown10); have HS10 := Lib.hid hs10; have HB10 := Lib.hid (HB9.out.trans hb10); have HE10 := Lib.hid (HE8.out.trans (HB10.out.mono HE8.out.size)); have HV10 := Lib.hid (own_below HV.out HE10.out); have HE1' := Lib.hid (HBV.out.trans (HE10.out.mono HBV.out.size)); clear hown10 hg10 hb10 hs10)
          | (refine wpList_app1 oneB rfl _ _ _ rfl w8.heap.size _ 0 _ rfl HA8.out _ k _ rfl (((HS8.out.take (Nat.le_of_lt hkN)).below HB8.out).src encB_cell Try.underlying24 c8) (by omega) (by unfold maxLen; omega) HB8.out.size ?_; intro v9 w9 hown9 hg9 hb9; rw [List.map_nil, List.nil_append, Nat.zero_add] at hown9; have HO9 := Lib.hid hown9; have HB9 := Lib.hid (HB8.out.trans hb9); have cx := cell_below HB9.out HK8.out; clear hown9 hg9 hb9)
          | (refine wpList_app_lit oneB rfl _ _ rfl w6.heap.size _ _ _ rfl HW2.out _ 1 _ rfl rfl rfl (by omega) (by unfold maxLen; omega) HE2.out.size ?_; intro v3 w8 hown3 hg3 hb3; rw [← HN.out] at hown3; obtain ⟨a8, c8, rfl, hs8, hc8⟩ := Sl.ofOwn (xs := (R ++ [(⟨3, 2, [], [], n⟩ : RV)]).flatMap RV.bytes) (by rw [show List.map encB ((R ++ [(⟨3, 2, [], [], n⟩ : RV)]).flatMap RV.bytes) = List.map encB (R.flatMap RV.bytes) ++ List.map encB (recB 3 2 [] [] n) ++ [.int .u8 0] by simp [List.flatMap_append, RV.bytes, encB]]; exact hown3); obtain ⟨b8, o8, rfl, hbl8, hcl8⟩ := row_cells hs8 hN0; have HS8 := Lib.hid hs8; have HE8 := Lib.hid (HE2.out.trans hb3); have HA8 := Lib.hid (own_empty w8 w8.heap.size 5 (Nat.le_refl _)); have HB8 := Lib.hid ((Below.refl w8.heap.size w8).alloc (Nat.le_refl _) (.cells #[] 5)); have HK8 := Lib.hid (show w8.cell? ⟨b8, o8 + k, none⟩ = some (.int .u8 (x8.toNat : Int)) by rw [HX8.out]; exact hcl8 k hkN); have hbl8' := hbl8; have kc8 : (k : Int) ≤ c8 := (by omega); clear hown3 hg3 hb3 hs8 hcl8)
          | (refine wpList_app1 oneB rfl _ _ _ rfl w6.heap.size _ _ _ rfl HW1.out _ _ _ rfl (HS1.out.src encB_cell Try.underlying24 _) (by omega) (by unfold maxLen; omega) HE1.out.size ?_; intro v2' w2' hown2 hg2 hb2; have HW2 := Lib.hid hown2; have HE2 := Lib.hid (HE1.out.trans hb2); clear hown2 hg2 hb2))
        go_ret
        exact ⟨rfl, HBW.out.trans (HE10.out.mono HBW.out.size)⟩
      · obtain ⟨q, T, hqL, hT, hTail⟩ := HTA.out hlm
        have HT := Lib.hid hT
        have HTL := Lib.hid hTail
        clear hT hTail
        by_cases hl1 : k + 1 = N
        · have q1 : ((k : Int) == (N : Int) - 1) = true := by simp; omega
          have q2 : ((mk.toNat : Int) == 0) = false := by
            simp only [beq_eq_false_iff_ne, ne_eq]
            intro h
            exact hlm ⟨hl1, UInt8.toNat_inj.1 (by show mk.toNat = 0; omega)⟩
          clear hlm hl1
          go_wp2_with (at_builtin; first
            | (refine wpList_app1 oneB rfl _ _ _ rfl w1.heap.size _ 37 _ rfl HV10.out _ (k + 1) _ rfl (HS10.out.src encB_cell Try.underlying24 c10) (by omega) (by unfold maxLen; omega) HE1'.out.size ?_; intro v11 w11 hown11 hg11 hb11; obtain ⟨a11, c11, rfl, hs11, hc11⟩ := Sl.ofOwn (xs := firstB ++ tornB ((R ++ [(⟨3, 2, [], [], n⟩ : RV)]).flatMap RV.bytes) k mk) (by rw [List.map_append]; exact hown11); have HS11 := Lib.hid hs11; have HE11 := Lib.hid (HE1'.out.trans hb11); clear hown11 hg11 hb11 hs11)
            | (refine wpList_app_lit oneB rfl _ _ rfl w8.heap.size _ k _ rfl HO9.out #[.int .u8 ((x8 ||| mk).toNat : Int)] 1 _ (by first | rfl | (go_simp; done) | (simp; done)) rfl rfl (by omega) (by unfold maxLen; omega) HB9.out.size ?_; intro v10 w10 hown10 hg10 hb10; obtain ⟨a10, c10, rfl, hs10, hc10⟩ := Sl.ofOwn (xs := tornB ((R ++ [(⟨3, 2, [], [], n⟩ : RV)]).flatMap RV.bytes) k mk) (by unfold tornB; rw [← HX8.out, List.map_append]; exact hown10); have HS10 := Lib.hid hs10; have HB10 := Lib.hid (HB9.out.trans hb10); have HE10 := Lib.hid (HE8.out.trans (HB10.out.mono HE8.out.size)); have HV10 := Lib.hid (own_below HV.out HE10.out); have HE1' := Lib.hid (HBV.out.trans (HE10.out.mono HBV.out.size)); clear hown10 hg10 hb10 hs10)
            | (refine wpList_app1 oneB rfl _ _ _ rfl w8.heap.size _ 0 _ rfl HA8.out _ k _ rfl (((HS8.out.take (Nat.le_of_lt hkN)).below HB8.out).src encB_cell Try.underlying24 c8) (by omega) (by unfold maxLen; omega) HB8.out.size ?_; intro v9 w9 hown9 hg9 hb9; rw [List.map_nil, List.nil_append, Nat.zero_add] at hown9; have HO9 := Lib.hid hown9; have HB9 := Lib.hid (HB8.out.trans hb9); have cx := cell_below HB9.out HK8.out; clear hown9 hg9 hb9)
            | (refine wpList_app_lit oneB rfl _ _ rfl w6.heap.size _ _ _ rfl HW2.out _ 1 _ rfl rfl rfl (by omega) (by unfold maxLen; omega) HE2.out.size ?_; intro v3 w8 hown3 hg3 hb3; rw [← HN.out] at hown3; obtain ⟨a8, c8, rfl, hs8, hc8⟩ := Sl.ofOwn (xs := (R ++ [(⟨3, 2, [], [], n⟩ : RV)]).flatMap RV.bytes) (by rw [show List.map encB ((R ++ [(⟨3, 2, [], [], n⟩ : RV)]).flatMap RV.bytes) = List.map encB (R.flatMap RV.bytes) ++ List.map encB (recB 3 2 [] [] n) ++ [.int .u8 0] by simp [List.flatMap_append, RV.bytes, encB]]; exact hown3); obtain ⟨b8, o8, rfl, hbl8, hcl8⟩ := row_cells hs8 hN0; have HS8 := Lib.hid hs8; have HE8 := Lib.hid (HE2.out.trans hb3); have HA8 := Lib.hid (own_empty w8 w8.heap.size 5 (Nat.le_refl _)); have HB8 := Lib.hid ((Below.refl w8.heap.size w8).alloc (Nat.le_refl _) (.cells #[] 5)); have HK8 := Lib.hid (show w8.cell? ⟨b8, o8 + k, none⟩ = some (.int .u8 (x8.toNat : Int)) by rw [HX8.out]; exact hcl8 k hkN); have hbl8' := hbl8; have kc8 : (k : Int) ≤ c8 := (by omega); clear hown3 hg3 hb3 hs8 hcl8)
            | (refine wpList_app1 oneB rfl _ _ _ rfl w6.heap.size _ _ _ rfl HW1.out _ _ _ rfl (HS1.out.src encB_cell Try.underlying24 _) (by omega) (by unfold maxLen; omega) HE1.out.size ?_; intro v2' w2' hown2 hg2 hb2; have HW2 := Lib.hid hown2; have HE2 := Lib.hid (HE1.out.trans hb2); clear hown2 hg2 hb2))
          refine (sector_own w11 a11 (37 + (k + 1)) c11 _ HS11.out (by omega)).mono ?_
          rintro e w12 ⟨v12, rfl, ho12, hb12⟩
          have HO12 := Lib.hid ho12
          have HB12 := Lib.hid hb12
          clear ho12 hb12
          obtain ⟨RS, hRS⟩ : ∃ RS, RS = [firstR, firstC] ++ R.take q := ⟨_, rfl⟩
          have HRS := Lib.hid hRS
          have hRl : RS.length ≤ 18 := by rw [hRS]; have := HL.out.len; simp; omega
          clear hRS
          obtain ⟨n13, hn13⟩ : ∃ x, x = 12 + (37 + (k + 1)) + 2 := ⟨_, rfl⟩
          have hnb : n13 ≤ 65536 := by omega
          have HN13 := Lib.hid hn13
          clear hn13
          go_wp2_with (at_builtin; first
            | (refine wpList_app_lit oneB rfl _ _ rfl w11.heap.size _ _ _ rfl HO12.out _ 2 _ rfl rfl rfl (by omega) (by unfold maxLen; omega) HB12.out.size ?_; intro v13 w13 hown13 hg13 hb13; rw [← HN13.out] at hown13; obtain ⟨a13, c13, rfl, hs13, hc13⟩ := Sl.ofOwn (xs := sectorT hdB RS T) (by rw [HRS.out, ← sector_torn R ⟨3, 2, [], [], n⟩ q k mk T HT.out, List.map_append]; exact hown13); have HS13 := Lib.hid hs13; have HB13 := Lib.hid (HB12.out.trans hb13); clear hown13 hg13 hb13 hs13))
          have HX13 := Lib.hid (HBW0.out.trans ((HE11.out.trans (HB13.out.mono HE11.out.size)).mono HBW0.out.size))
          refine (Scan_tail w13 a13 n13 c13 hdB RS T HTL.out hdB_length HS13.out hnb hc13 (fun r hr => by
            rw [HRS.out] at hr
            rcases List.mem_append.1 hr with h | h
            · rcases List.mem_cons.1 h with rfl | h
              · exact firstR_ok
              · rw [List.mem_singleton.1 h]; exact firstC_ok
            · exact (HL.out.ok r (List.mem_of_mem_take h)).1) 8 (by decide) hdB_eight).mono ?_
          rintro e w14 ⟨v14, F, nn, cl, rfl, hF, hTl, hb14⟩
          obtain ⟨a14, c14, rfl, hs14, hc14⟩ := Ss.ofOwn FV.cells_length (by omega) hF.own
          obtain ⟨hcm, hfk⟩ := cmOk_of (L := R) (q := q) (F := F) (fun r hr => ⟨(HL.out.ok r hr).2.2.1, (HL.out.ok r hr).2.2.2⟩) (by rw [← HRS.out]; exact hTl) (by rw [← HRS.out]; exact hF.len)
          have HC := Lib.hid (Commits_any w14 a14 RS.length c14 F hs14 hcm (by omega))
          have HFK := Lib.hid hfk
          have HX14 := Lib.hid (HX13.out.trans (hb14.mono HX13.out.size))
          clear hF hTl hb14 hs14 hcm hfk
          go_wp2_with fail
          refine HC.out.mono ?_
          rintro e w15 ⟨g, c, f0, rfl, hc1, hf0, hcell, hb15⟩
          have hcell' : w15.cell? ⟨g, 3, none⟩ = some (.string ⟨#[102, 105, 114, 115, 116]⟩) := by rw [hcell, HFK.out f0 hf0]; rfl
          have HX15 := Lib.hid (HX14.out.trans (hb15.mono HX14.out.size))
          clear hcell hf0 hb15 HC
          go_wp2_with fail
          go_ret
          exact ⟨rfl, HX15.out⟩
        · have q1 : ((k : Int) == (N : Int) - 1) = false := by simp; omega
          clear hlm hl1
          go_wp2_with (at_builtin; first
            | (refine wpList_app1 oneB rfl _ _ _ rfl w1.heap.size _ 37 _ rfl HV10.out _ (k + 1) _ rfl (HS10.out.src encB_cell Try.underlying24 c10) (by omega) (by unfold maxLen; omega) HE1'.out.size ?_; intro v11 w11 hown11 hg11 hb11; obtain ⟨a11, c11, rfl, hs11, hc11⟩ := Sl.ofOwn (xs := firstB ++ tornB ((R ++ [(⟨3, 2, [], [], n⟩ : RV)]).flatMap RV.bytes) k mk) (by rw [List.map_append]; exact hown11); have HS11 := Lib.hid hs11; have HE11 := Lib.hid (HE1'.out.trans hb11); clear hown11 hg11 hb11 hs11)
            | (refine wpList_app_lit oneB rfl _ _ rfl w8.heap.size _ k _ rfl HO9.out #[.int .u8 ((x8 ||| mk).toNat : Int)] 1 _ (by first | rfl | (go_simp; done) | (simp; done)) rfl rfl (by omega) (by unfold maxLen; omega) HB9.out.size ?_; intro v10 w10 hown10 hg10 hb10; obtain ⟨a10, c10, rfl, hs10, hc10⟩ := Sl.ofOwn (xs := tornB ((R ++ [(⟨3, 2, [], [], n⟩ : RV)]).flatMap RV.bytes) k mk) (by unfold tornB; rw [← HX8.out, List.map_append]; exact hown10); have HS10 := Lib.hid hs10; have HB10 := Lib.hid (HB9.out.trans hb10); have HE10 := Lib.hid (HE8.out.trans (HB10.out.mono HE8.out.size)); have HV10 := Lib.hid (own_below HV.out HE10.out); have HE1' := Lib.hid (HBV.out.trans (HE10.out.mono HBV.out.size)); clear hown10 hg10 hb10 hs10)
            | (refine wpList_app1 oneB rfl _ _ _ rfl w8.heap.size _ 0 _ rfl HA8.out _ k _ rfl (((HS8.out.take (Nat.le_of_lt hkN)).below HB8.out).src encB_cell Try.underlying24 c8) (by omega) (by unfold maxLen; omega) HB8.out.size ?_; intro v9 w9 hown9 hg9 hb9; rw [List.map_nil, List.nil_append, Nat.zero_add] at hown9; have HO9 := Lib.hid hown9; have HB9 := Lib.hid (HB8.out.trans hb9); have cx := cell_below HB9.out HK8.out; clear hown9 hg9 hb9)
            | (refine wpList_app_lit oneB rfl _ _ rfl w6.heap.size _ _ _ rfl HW2.out _ 1 _ rfl rfl rfl (by omega) (by unfold maxLen; omega) HE2.out.size ?_; intro v3 w8 hown3 hg3 hb3; rw [← HN.out] at hown3; obtain ⟨a8, c8, rfl, hs8, hc8⟩ := Sl.ofOwn (xs := (R ++ [(⟨3, 2, [], [], n⟩ : RV)]).flatMap RV.bytes) (by rw [show List.map encB ((R ++ [(⟨3, 2, [], [], n⟩ : RV)]).flatMap RV.bytes) = List.map encB (R.flatMap RV.bytes) ++ List.map encB (recB 3 2 [] [] n) ++ [.int .u8 0] by simp [List.flatMap_append, RV.bytes, encB]]; exact hown3); obtain ⟨b8, o8, rfl, hbl8, hcl8⟩ := row_cells hs8 hN0; have HS8 := Lib.hid hs8; have HE8 := Lib.hid (HE2.out.trans hb3); have HA8 := Lib.hid (own_empty w8 w8.heap.size 5 (Nat.le_refl _)); have HB8 := Lib.hid ((Below.refl w8.heap.size w8).alloc (Nat.le_refl _) (.cells #[] 5)); have HK8 := Lib.hid (show w8.cell? ⟨b8, o8 + k, none⟩ = some (.int .u8 (x8.toNat : Int)) by rw [HX8.out]; exact hcl8 k hkN); have hbl8' := hbl8; have kc8 : (k : Int) ≤ c8 := (by omega); clear hown3 hg3 hb3 hs8 hcl8)
            | (refine wpList_app1 oneB rfl _ _ _ rfl w6.heap.size _ _ _ rfl HW1.out _ _ _ rfl (HS1.out.src encB_cell Try.underlying24 _) (by omega) (by unfold maxLen; omega) HE1.out.size ?_; intro v2' w2' hown2 hg2 hb2; have HW2 := Lib.hid hown2; have HE2 := Lib.hid (HE1.out.trans hb2); clear hown2 hg2 hb2))
          refine (sector_own w11 a11 (37 + (k + 1)) c11 _ HS11.out (by omega)).mono ?_
          rintro e w12 ⟨v12, rfl, ho12, hb12⟩
          have HO12 := Lib.hid ho12
          have HB12 := Lib.hid hb12
          clear ho12 hb12
          obtain ⟨RS, hRS⟩ : ∃ RS, RS = [firstR, firstC] ++ R.take q := ⟨_, rfl⟩
          have HRS := Lib.hid hRS
          have hRl : RS.length ≤ 18 := by rw [hRS]; have := HL.out.len; simp; omega
          clear hRS
          obtain ⟨n13, hn13⟩ : ∃ x, x = 12 + (37 + (k + 1)) + 2 := ⟨_, rfl⟩
          have hnb : n13 ≤ 65536 := by omega
          have HN13 := Lib.hid hn13
          clear hn13
          go_wp2_with (at_builtin; first
            | (refine wpList_app_lit oneB rfl _ _ rfl w11.heap.size _ _ _ rfl HO12.out _ 2 _ rfl rfl rfl (by omega) (by unfold maxLen; omega) HB12.out.size ?_; intro v13 w13 hown13 hg13 hb13; rw [← HN13.out] at hown13; obtain ⟨a13, c13, rfl, hs13, hc13⟩ := Sl.ofOwn (xs := sectorT hdB RS T) (by rw [HRS.out, ← sector_torn R ⟨3, 2, [], [], n⟩ q k mk T HT.out, List.map_append]; exact hown13); have HS13 := Lib.hid hs13; have HB13 := Lib.hid (HB12.out.trans hb13); clear hown13 hg13 hb13 hs13))
          have HX13 := Lib.hid (HBW0.out.trans ((HE11.out.trans (HB13.out.mono HE11.out.size)).mono HBW0.out.size))
          refine (Scan_tail w13 a13 n13 c13 hdB RS T HTL.out hdB_length HS13.out hnb hc13 (fun r hr => by
            rw [HRS.out] at hr
            rcases List.mem_append.1 hr with h | h
            · rcases List.mem_cons.1 h with rfl | h
              · exact firstR_ok
              · rw [List.mem_singleton.1 h]; exact firstC_ok
            · exact (HL.out.ok r (List.mem_of_mem_take h)).1) 8 (by decide) hdB_eight).mono ?_
          rintro e w14 ⟨v14, F, nn, cl, rfl, hF, hTl, hb14⟩
          obtain ⟨a14, c14, rfl, hs14, hc14⟩ := Ss.ofOwn FV.cells_length (by omega) hF.own
          obtain ⟨hcm, hfk⟩ := cmOk_of (L := R) (q := q) (F := F) (fun r hr => ⟨(HL.out.ok r hr).2.2.1, (HL.out.ok r hr).2.2.2⟩) (by rw [← HRS.out]; exact hTl) (by rw [← HRS.out]; exact hF.len)
          have HC := Lib.hid (Commits_any w14 a14 RS.length c14 F hs14 hcm (by omega))
          have HFK := Lib.hid hfk
          have HX14 := Lib.hid (HX13.out.trans (hb14.mono HX13.out.size))
          clear hF hTl hb14 hs14 hcm hfk
          go_wp2_with fail
          refine HC.out.mono ?_
          rintro e w15 ⟨g, c, f0, rfl, hc1, hf0, hcell, hb15⟩
          have hcell' : w15.cell? ⟨g, 3, none⟩ = some (.string ⟨#[102, 105, 114, 115, 116]⟩) := by rw [hcell, HFK.out f0 hf0]; rfl
          have HX15 := Lib.hid (HX14.out.trans (hb15.mono HX14.out.size))
          clear hcell hf0 hb15 HC
          go_wp2_with fail
          go_ret
          exact ⟨rfl, HX15.out⟩
theorem walk_ScanTorn (a : Option Addr) (n cap : Nat) (c m : Int) (w : World) (h0 : IsChs w a n cap) (h1 : (Lit.int .u16 c).wf = true) (h2 : (Lit.int .u8 m).wf = true) :
    Calls Try.prog 4 #[.slice a n cap, .int .u16 c, .int .u8 m] w fun e w' => e = .returned (.bool true) ∧ Below w.heap.size w w' := by
  obtain ⟨c1, c2⟩ := bounds_u16 h1
  obtain ⟨m1, m2⟩ := bounds_u8 h2
  obtain ⟨c, rfl⟩ : ∃ k : Nat, c = k := ⟨c.toNat, by omega⟩
  obtain ⟨m, rfl⟩ : ∃ k : Nat, m = k := ⟨m.toNat, by omega⟩
  exact walk0_ScanTorn w a n cap c m h0 (by omega) (by omega)
end Go.Proofs.Ytechkdnoekffmaa
