/- klass: the document's codeBytes (printed by gen/klrefc.py). No condition. -/
import Derived.Test.YtnfhiakdbakpgaaQ27KlassCuts
namespace Go.Proofs.Ytnfhiakdbakpgaa
open Go.ChangeShapes Go.WideShapes Go.ChangeAt Go.RowKit
theorem kmaps_le (l : List KP) : l.length ≤ (l.flatMap kmapB).length := by
  induction l with
  | nil => simp
  | cons x t ih =>
    have h9 : 1 ≤ (kmapB x).length := by unfold kmapB; simp only [List.length_append, z2_len, List.length_cons, List.length_nil]; omega
    rw [List.flatMap_cons, List.length_append, List.length_cons]
    omega
set_option maxRecDepth 100000 in
set_option maxHeartbeats 32000000 in
theorem rcodeB_any (w : World) (pa : Option Addr) (pn pc : Nat) (L : List KV) (hL : Ks w pa pn L) (hpn : pn ≤ 65536) (m : KM) (hm : m.Rd w) (hlen : (codeB L m).length ≤ 1000000) :
    Calls Try.prog 44 #[.slice pa pn pc, .agg #[.int .i64 m.fl, .int .i64 m.nm, .int .i64 m.ds, .int .i64 m.st, .int .i64 m.lo, .slice m.ca m.cn m.cc, .slice m.ta m.tn m.tc, .slice m.ma m.mn m.mc]] w (OwnRet encB 5 w.heap.size w (codeB L m)) := by
  have hlen2 := codeB_len L m
  have HCB := Lib.hid (show codeB L m = z2 [m.st, m.lo] ++ z4 m.code.length ++ m.code ++ z2 [(m.traps.length : Int)] ++ m.traps.flatMap trapB ++ tailB L m.maps from rfl)
  have HLK := Lib.hid hL
  have HM := Lib.hid hm
  have hl1 := hm.code.1
  have hl2 := hm.traps.1
  have hl3 := hm.maps.1
  rw [hlen2] at hlen
  have HLEN := Lib.hid hlen
  obtain ⟨R, hR⟩ : ∃ R, R = codeB L m := ⟨_, rfl⟩
  rw [← hR]
  have HR := Lib.hid (hR.trans HCB.out)
  clear hR
  obtain ⟨fl, nm, ds, st, lo, ca, cn, cc, code, ta, tn, tc, traps, na, nn, nc, maps⟩ := m
  dsimp only at *
  rw [hl1, hl2] at HR
  have htn : tn ≤ 1000000 := by rw [hl2] at hlen; omega
  have hcn : cn ≤ 1000000 := by rw [hl1] at hlen; omega
  rw [hl1, hl2] at HLEN
  have HL2 := Lib.hid hl2
  have HL3 := Lib.hid hl3
  have HL1 := Lib.hid hl1
  clear hL hm hlen hlen2 HCB hl1 hl2 hl3
  have hal : Below w.heap.size w (w.alloc (.cells #[.int .i64 fl, .int .i64 nm, .int .i64 ds, .int .i64 st, .int .i64 lo, .slice ca cn cc, .slice ta tn tc, .slice na nn nc] 48)) := below_1 _ _
  have HT0 := Lib.hid (heap_alloc_last w (.cells #[.int .i64 fl, .int .i64 nm, .int .i64 ds, .int .i64 st, .int .i64 lo, .slice ca cn cc, .slice ta tn tc, .slice na nn nc] 48))
  have HB0 := Lib.hid hal
  clear hal
  go_enter Try.func44, Try.ntmps44
  go_upto_region 1 with fail
  generalize w.alloc (.cells #[.int .i64 fl, .int .i64 nm, .int .i64 ds, .int .i64 st, .int .i64 lo, .slice ca cn cc, .slice ta tn tc, .slice na nn nc] 48) = W0 at *
  obtain ⟨bm, hbm⟩ : ∃ b, b = w.heap.size := ⟨_, rfl⟩
  rw [← hbm] at HT0 ⊢
  clear hbm
  have k3 := row_cell HT0.out 3 rfl
  have k4 := row_cell HT0.out 4 rfl
  have k5 := row_cell HT0.out 5 rfl
  dsimp at k3 k4 k5
  have l3 := fun w' (h : Below W0.heap.size W0 w') => cellS_below h k3
  have l4 := fun w' (h : Below W0.heap.size W0 w') => cellS_below h k4
  have l5 := fun w' (h : Below W0.heap.size W0 w') => cellS_below h k5
  clear k3 k4 k5
  have hSw : Below W0.heap.size W0 W0.drew := (Below.refl _ _).drew
  refine wp_region_lex (Below W0.heap.size W0) [(0, true), (1, true), (2, true), (3, true), (6, true), (7, true), (8, true), (10, true), (11, true), (4, false), (5, false), (9, false), (12, false), (13, true)] (by kernel_rfl) (by kernel_rfl) (fun c a d v w h => by cases d <;> exact h) ?_
  iterate 9
    refine lex_step (fun K hK => ?_)
    simp only [lexOp, List.getElem?_toArray, List.getElem?_cons_succ, List.getElem?_cons_zero]
    rw [if_pos (by rfl)]
    apply Exists.intro
    refine ⟨fun w' hS' => ?_, hSw, ?_⟩
    · first | (go_simp <;> with_reducible rfl) | (go_simp; go_bits; with_reducible rfl)
    go_simp
    try go_bits
    refine hK _ _ ?_
    clear hK K
  generalize W0.drew = W1 at *
  refine lex_step (fun K hK => ?_)
  simp only [lexOp, List.getElem?_toArray, List.getElem?_cons_succ, List.getElem?_cons_zero]
  rw [if_pos (by rfl)]
  go_step
  refine ⟨hSw.trans ((below_1 W1 _).mono hSw.size), hK _ _ ?_⟩
  clear hK K
  refine lex_step (fun K hK => ?_)
  simp only [lexOp, List.getElem?_toArray, List.getElem?_cons_succ, List.getElem?_cons_zero]
  rw [if_pos (by rfl)]
  go_step
  refine (ru2_lit W1 none 0 0 [] (Sl.nil _ _) 2 [st, lo] rfl (by decide) (by decide)).mono ?_
  rintro e' W2 ⟨v2, m2, rfl, ho2, hb2⟩
  rw [List.nil_append] at ho2
  obtain ⟨a2, c2, rfl, hs2, -⟩ := Sl.ofOwn ho2
  have HS2 := Lib.hid hs2
  have hm2 : m2 = 4 := by rw [own_lenB ho2, z2_len]; rfl
  subst hm2
  replace hSw : Below W0.heap.size W0 W2 := hSw.trans (hb2.mono hSw.size)
  clear ho2 hb2 hs2
  go_simp
  first | refine hK _ _ ?_ | refine ⟨hSw, hK _ _ ?_⟩
  clear hK K
  refine lex_step (fun K hK => ?_)
  simp only [lexOp, List.getElem?_toArray, List.getElem?_cons_succ, List.getElem?_cons_zero]
  rw [if_pos (by rfl)]
  go_step
  refine (ru4_any W2 a2 4 c2 _ HS2.out (cn : Int) (by decide)).mono ?_
  rintro e' W3 ⟨v3, m3, rfl, ho3, hb3⟩
  have HL3' := Lib.hid (own_lenB ho3)
  have hm3 : m3 = 8 := by rw [own_lenB ho3, List.length_append, z2_len, z4_len]; rfl
  subst hm3
  have HO3 := Lib.hid (own_mono ho3 hSw.size)
  replace hSw : Below W0.heap.size W0 W3 := hSw.trans (hb3.mono hSw.size)
  clear ho3 hb3 HS2 HL3'
  go_simp
  first | refine hK _ _ ?_ | refine ⟨hSw, hK _ _ ?_⟩
  clear hK K
  refine lex_step (fun K hK => ?_)
  simp only [lexOp, List.getElem?_toArray, List.getElem?_cons_succ, List.getElem?_cons_zero]
  rw [if_pos (by rfl)]
  change Oper.wp _ _ _ _ _ _
  have HCS := Lib.hid ((HM.out.code.below (HB0.out.trans (hSw.mono HB0.out.size))).src encB_cell Try.underlying29 cc)
  refine wp_appK oneN (ops := #[]) rfl _ _ _ rfl W0.heap.size _ 8 _ rfl HO3.out _ cn (code.map encB) rfl HCS.out (by omega) (by unfold maxLen; omega) hSw.size ?_
  intro v4 W4 hown4 _ hb4
  rw [← List.map_append] at hown4
  have HO4 := Lib.hid (own_mono hown4 HB0.out.size)
  obtain ⟨a4, c4, rfl, -, -⟩ := Sl.ofOwn HO4.out
  replace hSw : Below W0.heap.size W0 W4 := hSw.trans hb4
  clear hown4 hb4 HCS HO3
  go_simp
  first | refine hK _ _ ?_ | refine ⟨hSw, hK _ _ ?_⟩
  clear hK K
  iterate 1
    refine lex_step (fun K hK => ?_)
    simp only [lexOp, List.getElem?_toArray, List.getElem?_cons_succ, List.getElem?_cons_zero]
    rw [if_pos (by rfl)]
    apply Exists.intro
    refine ⟨fun w' hS' => ?_, hSw, ?_⟩
    · first | (go_simp <;> with_reducible rfl) | (go_simp; go_bits; with_reducible rfl)
    go_simp
    try go_bits
    refine hK _ _ ?_
    clear hK K
  refine lex_nil ?_
  have HT4 := Lib.hid (row_below HT0.out hSw)
  have HB4 := Lib.hid (HB0.out.trans (hSw.mono HB0.out.size))
  clear l3 l4 l5 hSw HT0 HB0
  have k6 := row_cell HT4.out 6 rfl
  dsimp at k6
  have HU := Lib.hid (ru2_lit W4 a4 (8 + cn) c4 _ (own_slB HO4.out) 1 [(tn : Int)] rfl (by decide) (by omega))
  go_wp2_with fail
  refine HU.out.mono ?_
  rintro e' W5 ⟨v5, m5, rfl, ho5, hb5⟩
  obtain ⟨a5, c5, rfl, -, -⟩ := Sl.ofOwn ho5
  have HO5 := Lib.hid (own_mono ho5 HB4.out.size)
  have HB5 := Lib.hid (HB4.out.trans (hb5.mono HB4.out.size))
  have HT5 := Lib.hid (row_below HT4.out hb5)
  clear ho5 hb5 HU HT4 HB4 HO4 k6
  obtain ⟨d, hd⟩ : ∃ d, d = z2 [st, lo] ++ z4 cn ++ code ++ z2 [(tn : Int)] := ⟨_, rfl⟩
  rw [← hd] at HO5 HR
  have HDL := Lib.hid (show d.length = 10 + cn by rw [hd]; simp only [List.length_append, z2_len, z4_len, HL1.out, List.length_cons, List.length_nil]; omega)
  clear hd
  have k6 := row_cell HT5.out 6 rfl
  dsimp at k6
  go_wp2_with fail
  clear k6
  go_loopg [33, 5] tn (fun gn i v wr => ∃ (j : Nat) (a' : Option Addr) (n' c' : Nat), j ≤ tn ∧ gn = tn - j ∧ i = .int .i64 j ∧ v = .slice a' n' c' ∧ Hid (wr.ownsRow w.heap.size 5 1 (.slice a' n' c') n' ((d ++ (traps.take j).flatMap trapB).map encB)) ∧ Hid (Below w.heap.size w wr) ∧ Hid (wr.heap[bm]? = some (.cells #[.int .i64 fl, .int .i64 nm, .int .i64 ds, .int .i64 st, .int .i64 lo, .slice ca cn cc, .slice ta tn tc, .slice na nn nc] 48)))
  case atStart => exact ⟨0, a5, m5, c5, by omega, by omega, by go_num, rfl, Lib.hid (by simpa using HO5.out), HB5, HT5⟩
  case round =>
    clear HO5 HB5 HT5
    obtain ⟨j, a', n', c', hj, rfl, rfl, rfl, HO, HB, HT⟩ := hrel
    by_cases hlt : j < tn
    · obtain ⟨b, off, x, rfl, _, hv, q⟩ := Ss.getC (HM.out.traps.below HB.out) j hlt
      have HF := Lib.hid (show d ++ (traps.take (j + 1)).flatMap trapB = (d ++ (traps.take j).flatMap trapB) ++ trapB x by rw [flat_take trapB traps j x hv, List.append_assoc])
      have hroom : n' + 8 ≤ 1000000 := by
        have h1 := flat_room trapB traps j x hv
        have h2 := own_lenB HO.out
        have h3 := HLEN.out
        rw [List.length_append, HDL.out] at h2
        have h4 := traps_len traps
        rw [trapB_len] at h1
        rw [HL2.out] at h4
        omega
      obtain ⟨fr, tt, pl, cl⟩ := x
      have HTB := Lib.hid (show trapB ⟨fr, tt, pl, cl⟩ = z2 [fr, tt, pl, cl] from rfl)
      rw [HTB.out] at HF
      have q0 : wr.cell? ⟨b, off + j * 4, none⟩ = some (.int .i64 fr) := q 0 (by omega)
      have q1 : wr.cell? ⟨b, off + j * 4 + 1, none⟩ = some (.int .i64 tt) := q 1 (by omega)
      have q2 : wr.cell? ⟨b, off + j * 4 + 2, none⟩ = some (.int .i64 pl) := q 2 (by omega)
      have q3 : wr.cell? ⟨b, off + j * 4 + 3, none⟩ = some (.int .i64 cl) := q 3 (by omega)
      clear q hv HTB
      have hal : Below wr.heap.size wr (wr.alloc (.cells #[.int .i64 fr, .int .i64 tt, .int .i64 pl, .int .i64 cl] 98)) := below_1 _ _
      have HX := Lib.hid (heap_alloc_last wr (.cells #[.int .i64 fr, .int .i64 tt, .int .i64 pl, .int .i64 cl] 98))
      have HB2 := Lib.hid (HB.out.trans (hal.mono HB.out.size))
      have HT2 := Lib.hid (row_below HT.out hal)
      have HO2 := Lib.hid (own_below HO.out hal)
      have hj1 : (j : Int) < tn := by omega
      go_upto_region 6 with fail
      clear q0 q1 q2 q3 hal HB HT HO
      generalize wr.alloc (.cells #[.int .i64 fr, .int .i64 tt, .int .i64 pl, .int .i64 cl] 98) = W6 at *
      generalize wr.heap.size = bt at *
      have k0 := row_cell HX.out 0 rfl
      have k1 := row_cell HX.out 1 rfl
      have k2 := row_cell HX.out 2 rfl
      have k3 := row_cell HX.out 3 rfl
      dsimp at k0 k1 k2 k3
      have HU := Lib.hid (ru2_lit W6 a' n' c' _ (own_slB HO2.out) 4 [fr, tt, pl, cl] rfl (by decide) (by omega))
      go_wp2_with fail
      refine HU.out.mono ?_
      rintro e' W7 ⟨v7, m7, rfl, ho7, hb7⟩
      obtain ⟨a7, c7, rfl, -, -⟩ := Sl.ofOwn ho7
      have HO7 := Lib.hid (own_mono ho7 HB2.out.size)
      have HB7 := Lib.hid (HB2.out.trans (hb7.mono HB2.out.size))
      have HT7 := Lib.hid (row_below HT2.out hb7)
      clear ho7 hb7 HU HB2 HT2 HO2 k0 k1 k2 k3 HX
      go_wp2_with fail
      go_roundg (tn - (j + 1))
      case measure => omega
      case rel => exact ⟨j + 1, a7, m7, c7, by omega, rfl, by go_num, rfl, Lib.hid (by rw [HF.out]; exact HO7.out), HB7, HT7⟩
    · obtain rfl : tn = j := by omega
      have HE := Lib.hid (show traps.take tn = traps by rw [List.take_of_length_le (by rw [HL2.out]; exact Nat.le_refl _)])
      rw [HE.out] at HO
      have HN5 := Lib.hid (show n' = 10 + cn + tn * 8 by rw [own_lenB HO.out, List.length_append, HDL.out, traps_len, HL2.out])
      obtain ⟨d2, hd2⟩ : ∃ d2, d2 = d ++ traps.flatMap trapB := ⟨_, rfl⟩
      rw [← hd2] at HO HR
      have HDL2 := Lib.hid (show d2.length = 10 + cn + tn * 8 by rw [hd2, List.length_append, HDL.out, traps_len, HL2.out])
      clear hd2 HE HDL
      have k7 := row_cell HT.out 7 rfl
      dsimp at k7
      by_cases h0 : nn = 0
      · have e0 : ((nn : Int) == 0) = true := by simp [h0]
        have HTL := Lib.hid (show tailB L maps = z2 [0] by unfold tailB; rw [if_pos (by rw [HL3.out]; exact h0)])
        have hn9 : n' ≤ 1000000 := by have := HLEN.out; have := HN5.out; omega
        have HU := Lib.hid (ru2_lit wr a' n' c' _ (own_slB HO.out) 1 [0] rfl (by decide) (by omega))
        rw [HTL.out] at HR
        clear h0
        go_wp2_with fail
        refine HU.out.mono ?_
        rintro e' W7 ⟨v7, m7, rfl, ho7, hb7⟩
        obtain ⟨a7, c7, rfl, -, -⟩ := Sl.ofOwn ho7
        go_wp2_with fail
        go_ret
        exact ⟨_, _, rfl, by rw [HR.out]; exact own_mono ho7 HB.out.size, HB.out.trans (hb7.mono HB.out.size)⟩
      · have e0 : ((nn : Int) == 0) = false := by simp [h0]
        have HTL := Lib.hid (show tailB L maps = z2 [1, (findT L sMap : Int)] ++ z4 (mapsB maps).length ++ mapsB maps by unfold tailB; rw [if_neg (by rw [HL3.out]; exact h0)])
        have HTLn := Lib.hid (show (tailB L maps).length = 8 + (mapsB maps).length by rw [HTL.out]; simp only [List.length_append, z2_len, z4_len, List.length_cons, List.length_nil])
        have HMBL := Lib.hid (show (mapsB maps).length = 2 + (maps.flatMap kmapB).length by unfold mapsB; simp only [List.length_append, z2_len, List.length_cons, List.length_nil])
        have HMB := Lib.hid (show mapsB maps = z2 [(nn : Int)] ++ maps.flatMap kmapB by unfold mapsB; rw [HL3.out])
        have hnn : nn ≤ 1000000 := by
          have h2 := kmaps_le maps
          have h3 := HLEN.out
          rw [HTLn.out, HMBL.out] at h3
          rw [HL3.out] at h2
          omega
        rw [HTL.out] at HR
        have HU := Lib.hid (ru2_lit wr none 0 0 [] (Sl.nil _ _) 1 [(nn : Int)] rfl (by decide) (by decide))
        clear h0
        go_wp2_with fail
        refine HU.out.mono ?_
        rintro e' W7 ⟨v7, m7, rfl, ho7, hb7⟩
        rw [List.nil_append] at ho7
        obtain ⟨a7, c7, rfl, -, -⟩ := Sl.ofOwn ho7
        have HX7 := Lib.hid (own_mono ho7 HB.out.size)
        have HB7 := Lib.hid (HB.out.trans (hb7.mono HB.out.size))
        have HT7 := Lib.hid (row_below HT.out hb7)
        have HO7 := Lib.hid (own_below HO.out hb7)
        clear ho7 hb7 HU k7 HO HB HT
        have k7 := row_cell HT7.out 7 rfl
        dsimp at k7
        go_wp2_with fail
        clear k7
        go_loopg [64, 8] nn (fun gn i v wr => ∃ (j : Nat) (a9 : Option Addr) (n9 c9 : Nat), j ≤ nn ∧ gn = nn - j ∧ i = .int .i64 j ∧ v = .slice a9 n9 c9 ∧ Hid (wr.ownsRow w.heap.size 5 1 (.slice a9 n9 c9) n9 ((z2 [(nn : Int)] ++ (maps.take j).flatMap kmapB).map encB)) ∧ Hid (Below w.heap.size w wr) ∧ Hid (Below W7.heap.size W7 wr))
        case atStart => exact ⟨0, a7, m7, c7, by omega, by omega, by go_num, rfl, Lib.hid (by simpa using HX7.out), HB7, Lib.hid (Below.refl _ _)⟩
        case round =>
          clear HX7
          obtain ⟨j, a9, n9, c9, hj, rfl, rfl, rfl, HX, HB, HBW⟩ := hrel
          by_cases hlt : j < nn
          · obtain ⟨b, off, x, rfl, _, hv, q⟩ := Ss.getC (HM.out.maps.below HB.out) j hlt
            have HF := Lib.hid (show z2 [(nn : Int)] ++ (maps.take (j + 1)).flatMap kmapB = (z2 [(nn : Int)] ++ (maps.take j).flatMap kmapB) ++ kmapB x by rw [flat_take kmapB maps j x hv, List.append_assoc])
            have hroom : n9 + (kmapB x).length ≤ 1000000 := by
              have h1 := flat_room kmapB maps j x hv
              have h2 := own_lenB HX.out
              have h3 := HLEN.out
              rw [HTLn.out, HMBL.out] at h3
              rw [List.length_append, z2_len, List.length_cons, List.length_nil] at h2
              omega
            have HXR := Lib.hid (HM.out.each x (List.mem_of_getElem? hv))
            obtain ⟨pl, la, ln, lc, loc, sa, sn, sc, stk⟩ := x
            have HKB := Lib.hid (show kmapB ⟨pl, la, ln, lc, loc, sa, sn, sc, stk⟩ = z2 [pl] ++ slotsB loc ++ slotsB stk from rfl)
            rw [HKB.out, List.length_append, List.length_append, z2_len, List.length_cons, List.length_nil] at hroom
            rw [HKB.out] at HF
            have q0 : wr.cell? ⟨b, off + j * 3, none⟩ = some (.int .i64 pl) := q 0 (by omega)
            have q1 : wr.cell? ⟨b, off + j * 3 + 1, none⟩ = some (.slice la ln lc) := q 1 (by omega)
            have q2 : wr.cell? ⟨b, off + j * 3 + 2, none⟩ = some (.slice sa sn sc) := q 2 (by omega)
            clear q hv HKB
            generalize z2 [(nn : Int)] ++ (maps.take j).flatMap kmapB = d9 at *
            have hal : Below wr.heap.size wr (wr.alloc (.cells #[.int .i64 pl, .slice la ln lc, .slice sa sn sc] 51)) := below_1 _ _
            have HXM := Lib.hid (heap_alloc_last wr (.cells #[.int .i64 pl, .slice la ln lc, .slice sa sn sc] 51))
            have HB2 := Lib.hid (HB.out.trans (hal.mono HB.out.size))
            have HBW2 := Lib.hid (HBW.out.trans (hal.mono HBW.out.size))
            have HX2 := Lib.hid (own_below HX.out hal)
            have hj1 : (j : Int) < nn := by omega
            go_upto_region 14 with fail
            clear q0 q1 q2 hal HB HBW HX
            generalize wr.alloc (.cells #[.int .i64 pl, .slice la ln lc, .slice sa sn sc] 51) = V0 at *
            generalize wr.heap.size = bt at *
            have k0 := row_cell HXM.out 0 rfl
            have k1 := row_cell HXM.out 1 rfl
            have k2 := row_cell HXM.out 2 rfl
            dsimp at k0 k1 k2
            have l0 := fun w' (h : Below V0.heap.size V0 w') => cellS_below h k0
            have l1 := fun w' (h : Below V0.heap.size V0 w') => cellS_below h k1
            have l2 := fun w' (h : Below V0.heap.size V0 w') => cellS_below h k2
            clear k0 k1 k2 HXM
            have hSw : Below V0.heap.size V0 V0.drew := (Below.refl _ _).drew
            have HX3 := Lib.hid (own_slB (own_below HX2.out hSw))
            refine wp_region_lex (Below V0.heap.size V0) [(0, true), (1, true), (2, true), (5, true), (6, true), (8, true), (9, true), (3, false), (4, false), (7, false), (10, false), (11, true)] (by kernel_rfl) (by kernel_rfl) (fun c a d v w h => by cases d <;> exact h) ?_
            iterate 7
              refine lex_step (fun K hK => ?_)
              simp only [lexOp, List.getElem?_toArray, List.getElem?_cons_succ, List.getElem?_cons_zero]
              rw [if_pos (by rfl)]
              apply Exists.intro
              refine ⟨fun w' hS' => ?_, hSw, ?_⟩
              · first | (go_simp <;> with_reducible rfl) | (go_simp; go_bits; with_reducible rfl)
              go_simp
              try go_bits
              refine hK _ _ ?_
              clear hK K
            generalize V0.drew = V1 at *
            refine lex_step (fun K hK => ?_)
            simp only [lexOp, List.getElem?_toArray, List.getElem?_cons_succ, List.getElem?_cons_zero]
            rw [if_pos (by rfl)]
            go_step
            refine ⟨hSw.trans ((below_1 V1 _).mono hSw.size), hK _ _ ?_⟩
            clear hK K
            refine lex_step (fun K hK => ?_)
            simp only [lexOp, List.getElem?_toArray, List.getElem?_cons_succ, List.getElem?_cons_zero]
            rw [if_pos (by rfl)]
            go_step
            refine (ru2_lit V1 a9 n9 c9 d9 HX3.out 1 [pl] rfl (by decide) (by omega)).mono ?_
            rintro e' V2 ⟨v2, m2, rfl, ho2, hb2⟩
            obtain ⟨a2, c2, rfl, hs2, -⟩ := Sl.ofOwn ho2
            have HS2 := Lib.hid hs2
            have HM2 := Lib.hid (show m2 = n9 + 2 by rw [own_lenB ho2, List.length_append, ← own_lenB HX2.out, z2_len]; rfl)
            replace hSw : Below V0.heap.size V0 V2 := hSw.trans (hb2.mono hSw.size)
            clear ho2 hb2 hs2 HX3
            go_simp
            first | refine hK _ _ ?_ | refine ⟨hSw, hK _ _ ?_⟩
            clear hK K
            refine lex_step (fun K hK => ?_)
            simp only [lexOp, List.getElem?_toArray, List.getElem?_cons_succ, List.getElem?_cons_zero]
            rw [if_pos (by rfl)]
            go_step
            refine (rslotB_any V2 a2 m2 c2 _ HS2.out la ln lc loc (HXR.out.loc.below (HB2.out.trans (hSw.mono HB2.out.size))) (by have := HM2.out; omega)).mono ?_
            rintro e' V3 ⟨v3, m3, rfl, ho3, hb3⟩
            obtain ⟨a3, c3, rfl, hs3, -⟩ := Sl.ofOwn ho3
            have HS3 := Lib.hid hs3
            have HM3 := Lib.hid (show m3 = n9 + 2 + (slotsB loc).length by rw [own_lenB ho3, List.length_append, HS2.out.1, HM2.out])
            replace hSw : Below V0.heap.size V0 V3 := hSw.trans (hb3.mono hSw.size)
            clear ho3 hb3 hs3 HS2
            go_simp
            first | refine hK _ _ ?_ | refine ⟨hSw, hK _ _ ?_⟩
            clear hK K
            refine lex_step (fun K hK => ?_)
            simp only [lexOp, List.getElem?_toArray, List.getElem?_cons_succ, List.getElem?_cons_zero]
            rw [if_pos (by rfl)]
            go_step
            refine (rslotB_any V3 a3 m3 c3 _ HS3.out sa sn sc stk (HXR.out.stk.below (HB2.out.trans (hSw.mono HB2.out.size))) (by have := HM3.out; omega)).mono ?_
            rintro e' V4 ⟨v4, m4, rfl, ho4, hb4⟩
            obtain ⟨a4, c4, rfl, -, -⟩ := Sl.ofOwn ho4
            have HO4 := Lib.hid (own_mono ho4 (Nat.le_trans HB2.out.size hSw.size))
            replace hSw : Below V0.heap.size V0 V4 := hSw.trans (hb4.mono hSw.size)
            clear ho4 hb4 HS3
            go_simp
            first | refine hK _ _ ?_ | refine ⟨hSw, hK _ _ ?_⟩
            clear hK K
            iterate 1
              refine lex_step (fun K hK => ?_)
              simp only [lexOp, List.getElem?_toArray, List.getElem?_cons_succ, List.getElem?_cons_zero]
              rw [if_pos (by rfl)]
              apply Exists.intro
              refine ⟨fun w' hS' => ?_, hSw, ?_⟩
              · first | (go_simp <;> with_reducible rfl) | (go_simp; go_bits; with_reducible rfl)
              go_simp
              try go_bits
              refine hK _ _ ?_
              clear hK K
            refine lex_nil ?_
            have HB5 := Lib.hid (HB2.out.trans (hSw.mono HB2.out.size))
            have HBW5 := Lib.hid (HBW2.out.trans (hSw.mono HBW2.out.size))
            clear l0 l1 l2 hSw HB2 HBW2 HX2
            go_wp2_with fail
            go_roundg (nn - (j + 1))
            case measure => omega
            case rel => exact ⟨j + 1, a4, m4, c4, by omega, rfl, by go_num, rfl, Lib.hid (by rw [HF.out, ← List.append_assoc, ← List.append_assoc]; exact HO4.out), HB5, HBW5⟩
          · obtain rfl : nn = j := by omega
            have HE := Lib.hid (show maps.take nn = maps by rw [List.take_of_length_le (by rw [HL3.out]; exact Nat.le_refl _)])
            rw [HE.out, ← HMB.out] at HX
            have HO8 := Lib.hid (own_below HO7.out HBW.out)
            clear HE HO7 HBW
            have HN9 := Lib.hid (own_lenB HX.out)
            have hn9 : n9 ≤ 1000000 := by have h1 := HLEN.out; rw [HTLn.out] at h1; have h2 := HN9.out; omega
            have hn5 : n' + 8 + n9 ≤ 1000000 := by have h1 := HLEN.out; rw [HTLn.out] at h1; have h2 := HN9.out; have h3 := HN5.out; omega
            have HC := rfind_any wr pa pn pc L sMap (HLK.out.below HB.out) hpn
            generalize findT L sMap = fk at *
            unfold sMap at HC
            replace HC := Lib.hid HC
            go_wp2_with fail
            refine HC.out.mono ?_
            rintro e' V2 ⟨rfl, hb2⟩
            have HB2 := Lib.hid (HB.out.trans (hb2.mono HB.out.size))
            have HO2 := Lib.hid (own_below HO8.out hb2)
            have HX2 := Lib.hid (own_below HX.out hb2)
            clear hb2 HC HB HO8 HX
            have HU := Lib.hid (ru2_lit V2 a' n' c' _ (own_slB HO2.out) 2 [1, (fk : Int)] rfl (by decide) (by omega))
            go_wp2_with fail
            refine HU.out.mono ?_
            rintro e' V3 ⟨v3, m3, rfl, ho3, hb3⟩
            obtain ⟨a3, c3, rfl, hs3, -⟩ := Sl.ofOwn ho3
            have HM3 := Lib.hid (show m3 = n' + 4 by rw [own_lenB ho3, List.length_append, ← own_lenB HO2.out, z2_len]; rfl)
            have HS3 := Lib.hid hs3
            have HB3 := Lib.hid (HB2.out.trans (hb3.mono HB2.out.size))
            have HX3 := Lib.hid (own_below HX2.out hb3)
            clear ho3 hb3 hs3 HU HB2 HO2 HX2
            have HW := Lib.hid (ru4_any V3 a3 m3 c3 _ HS3.out (n9 : Int) (by have := HM3.out; omega))
            go_wp2_with fail
            refine HW.out.mono ?_
            rintro e' V4 ⟨v4, m4, rfl, ho4, hb4⟩
            obtain ⟨a4, c4, rfl, -, -⟩ := Sl.ofOwn ho4
            have hm4 : m4 = n' + 8 := by rw [own_lenB ho4, List.length_append, HS3.out.1, HM3.out, z4_len]
            have HO4 := Lib.hid (own_mono ho4 HB3.out.size)
            have HB4 := Lib.hid (HB3.out.trans (hb4.mono HB3.out.size))
            have HX4 := Lib.hid (own_slB (own_below HX3.out hb4))
            clear ho4 hb4 HW HB3 HS3 HX3
            rw [HN9.out] at HO4
            have hm4' : m4 + n9 ≤ 1000000 := by omega
            clear hm4 HN9
            go_wp2_with (at_builtin; refine wpList_app1 oneN rfl _ _ _ rfl w.heap.size _ m4 _ rfl HO4.out (.slice a9 n9 c9) n9 _ rfl (HX4.out.src encB_cell Try.underlying29 _) (by omega) (by unfold maxLen; omega) HB4.out.size ?_; intro v5 W9 hown5 hg5 hb5; rw [← List.map_append] at hown5; obtain ⟨a5, c5, rfl, -, -⟩ := Sl.ofOwn hown5; have HO5 := Lib.hid hown5; have HB5 := Lib.hid (HB4.out.trans hb5); clear hown5 hg5 hb5)
            go_ret
            exact ⟨.slice a5 (m4 + n9) c5, m4 + n9, rfl, by rw [HR.out]; have h := HO5.out; simpa only [List.append_assoc] using h, HB5.out⟩
end Go.Proofs.Ytnfhiakdbakpgaa
