/- klass: the document's Bytes (printed by gen/klrefd.py). No condition. -/
import Derived.Test.YtnfhiakdbakpgaaQ28KlassCuts
namespace Go.Proofs.Ytnfhiakdbakpgaa
open Go.ChangeShapes Go.WideShapes Go.ChangeAt Go.RowKit
theorem meths_le (L : List KV) (l : List KM) : l.length ≤ (l.flatMap (methB L)).length := by
  induction l with
  | nil => simp
  | cons x t ih =>
    have h9 : 1 ≤ (methB L x).length := by unfold methB; simp only [List.length_append, z2_len, z4_len, List.length_cons, List.length_nil]; omega
    rw [List.flatMap_cons, List.length_append, List.length_cons]
    omega
set_option maxRecDepth 100000 in
set_option maxHeartbeats 64000000 in
theorem rBytes_any (w : World) (f : KF) (h : f.Rd w) (hpn : f.pn ≤ 65536) (hps : ∀ i : Nat, i < f.pn → (kAt f.pool i).s.length ≤ 65536) (hpo : poolOk f.pool = true) (hlen : (classB f).length ≤ 1000000) :
    Calls Try.prog 13 #[.agg f.vals] w (OwnRet encB 5 w.heap.size w (classB f)) := by
  have HCB := Lib.hid (show classB f = z4 3405691582 ++ z2 [0, 45] ++ bytesK f.pool ++ z2 [33, f.th, f.su, 0, (f.fields.length : Int)] ++ f.fields.flatMap fieldB ++ z2 [(f.methods.length : Int)] ++ f.methods.flatMap (methB f.pool) ++ z2 [0] from rfl)
  have hlen2 := classB_len f
  rw [hlen2] at hlen
  obtain ⟨R, hR⟩ : ∃ R, R = classB f := ⟨_, rfl⟩
  rw [← hR]
  have HR := Lib.hid (hR.trans HCB.out)
  clear hR
  have HX := Lib.hid h
  have HPS := Lib.hid hps
  have HPO := Lib.hid hpo
  have hl2 := h.fields.1
  have hl3 := h.methods.1
  have hmm : f.methods.length ≤ 1000000 := by
    have h2 := meths_le f.pool f.methods
    omega
  have HPL := Lib.hid (show (bytesK f.pool).length ≤ 1000000 by omega)
  rw [hl2, hl3] at HR
  rw [hl2] at hlen
  rw [hl3] at hmm
  have hfn : f.fn ≤ 1000000 := by omega
  have hmn : f.mn ≤ 1000000 := hmm
  have HLEN := Lib.hid hlen
  have HL2 := Lib.hid hl2
  have HL3 := Lib.hid hl3
  clear h hps hpo hlen hlen2 HCB hl2 hl3 hmm
  obtain ⟨pa, pn, pc, pool, th, su, fa, fn, fc, fields, ma, mn, mc, methods⟩ := f
  unfold KF.vals
  dsimp only at *
  have hal : Below w.heap.size w (w.alloc (.cells #[.slice pa pn pc, .int .i64 th, .int .i64 su, .slice fa fn fc, .slice ma mn mc] 26)) := below_1 _ _
  have HT0 := Lib.hid (heap_alloc_last w (.cells #[.slice pa pn pc, .int .i64 th, .int .i64 su, .slice fa fn fc, .slice ma mn mc] 26))
  have HB0 := Lib.hid hal
  clear hal
  go_enter Try.func13, Try.ntmps13
  go_upto_region 1 with fail
  generalize w.alloc (.cells #[.slice pa pn pc, .int .i64 th, .int .i64 su, .slice fa fn fc, .slice ma mn mc] 26) = W0 at *
  obtain ⟨bf, hbf⟩ : ∃ b, b = w.heap.size := ⟨_, rfl⟩
  rw [← hbf] at HT0 ⊢
  clear hbf
  go_cut [3] (fun v wx => ∃ (a' : Option Addr) (n' c' : Nat), v = .slice a' n' c' ∧ Hid (wx.ownsRow w.heap.size 5 1 (.slice a' n' c') n' ((z4 3405691582 ++ z2 [0, 45] ++ bytesK pool).map encB)) ∧ Hid (Below w.heap.size w wx) ∧ Hid (wx.heap[bf]? = some (.cells #[.slice pa pn pc, .int .i64 th, .int .i64 su, .slice fa fn fc, .slice ma mn mc] 26)))
  case first =>
    have k0 := row_cell HT0.out 0 rfl
    dsimp at k0
    have l0 := fun w' (h : Below W0.heap.size W0 w') => cellS_below h k0
    clear k0
    have hSw : Below W0.heap.size W0 W0.drew := (Below.refl _ _).drew
    refine wp_region_lexS (Below W0.heap.size W0) (.of [(3, true), (4, true)] (.fork 0 (.of [(1, false), (2, false), (5, false), (6, false)] (.stir [(7, true)])) 1 (.of [(0, false), (2, false), (5, false), (6, false)] (.stir [(7, true)])))) (by kernel_rfl) (by kernel_rfl) (fun c a d v w h => by cases d <;> exact h) ?_
    iterate 2
      refine lexS_step (fun K hK => ?_)
      simp only [lexOp, List.getElem?_toArray, List.getElem?_cons_succ, List.getElem?_cons_zero]
      rw [if_pos (by rfl)]
      apply Exists.intro
      refine ⟨fun w' hS' => ?_, hSw, ?_⟩
      · first | (go_simp <;> with_reducible rfl) | (go_simp; go_bits; with_reducible rfl)
      go_simp
      try go_bits
      refine hK _ _ ?_
      clear hK K
    refine lexS_fork ?_ ?_
    · intro K hK
      simp only [lexOp, List.getElem?_toArray, List.getElem?_cons_succ, List.getElem?_cons_zero]
      rw [if_pos (by rfl)]
      go_step
      refine (refPut_any _ none 0 0 [] 3405691582 4 (Sl.nil _ _) (by decide) (by decide) (by decide) (by decide)).mono ?_
      rintro e' W1 ⟨v1, m1, rfl, ho1, hb1⟩
      rw [List.nil_append] at ho1
      obtain ⟨a1, c1, rfl, hs1, -⟩ := Sl.ofOwn ho1
      have hm1 : m1 = 4 := by rw [own_lenB ho1, putB_length]
      subst hm1
      replace hSw : Below W0.heap.size W0 W1 := hSw.trans (hb1.mono hSw.size)
      have HS1 := Lib.hid (show Sl encB W1 a1 4 (z4 3405691582) from hs1)
      clear ho1 hb1 hs1
      go_simp
      first | refine hK _ _ ?_ | refine ⟨hSw, hK _ _ ?_⟩
      clear hK K
      refine lexS_step (fun K hK => ?_)
      simp only [lexOp, List.getElem?_toArray, List.getElem?_cons_succ, List.getElem?_cons_zero]
      rw [if_pos (by rfl)]
      go_step
      have hbz := below_1 W1 (.cells #[.int .i64 0, .int .i64 45] 3)
      have HZ := Lib.hid (Sl.litZ W1 2 [0, 45] 3 rfl)
      have HS1 := Lib.hid (HS1.out.below hbz)
      refine ⟨hSw.trans (hbz.mono hSw.size), hK _ _ ?_⟩
      replace hSw := hSw.trans (hbz.mono hSw.size)
      clear hK K hbz
      refine lexS_step (fun K hK => ?_)
      simp only [lexOp, List.getElem?_toArray, List.getElem?_cons_succ, List.getElem?_cons_zero]
      rw [if_pos (by rfl)]
      go_step
      refine (ru2_any _ a1 4 c1 _ HS1.out _ 2 2 [0, 45] HZ.out (by decide) (by decide)).mono ?_
      rintro e' W3 ⟨v3, m3, rfl, ho3, hb3⟩
      obtain ⟨a3, c3, rfl, -, -⟩ := Sl.ofOwn ho3
      have hm3 : m3 = 8 := by rw [own_lenB ho3, List.length_append, z2_len, z4_len]; rfl
      subst hm3
      have HO3 := Lib.hid (own_mono ho3 hSw.size)
      replace hSw : Below W0.heap.size W0 W3 := hSw.trans (hb3.mono hSw.size)
      clear ho3 hb3 HS1 HZ
      go_simp
      first | refine hK _ _ ?_ | refine ⟨hSw, hK _ _ ?_⟩
      clear hK K
      refine lexS_step (fun K hK => ?_)
      simp only [lexOp, List.getElem?_toArray, List.getElem?_cons_succ, List.getElem?_cons_zero]
      rw [if_pos (by rfl)]
      go_step
      refine ((refBytes_any _ pa pn pc pool (HX.out.pool.below (HB0.out.trans (hSw.mono HB0.out.size))) hpn HPS.out HPO.out HPL.out)).mono ?_
      rintro e' W4 ⟨v4, m4, rfl, ho4, hb4⟩
      obtain ⟨a4, c4, rfl, hs4, -⟩ := Sl.ofOwn ho4
      have HS4 := Lib.hid hs4
      have HN4 := Lib.hid (own_lenB ho4)
      have HO3 := Lib.hid (own_below HO3.out hb4)
      replace hSw : Below W0.heap.size W0 W4 := hSw.trans (hb4.mono hSw.size)
      clear ho4 hb4 hs4
      go_simp
      first | refine hK _ _ ?_ | refine ⟨hSw, hK _ _ ?_⟩
      clear hK K
      refine lexS_step (fun K hK => ?_)
      simp only [lexOp, List.getElem?_toArray, List.getElem?_cons_succ, List.getElem?_cons_zero]
      rw [if_pos (by rfl)]
      change Oper.wp _ _ _ _ _ _
      refine wp_appK oneN (ops := #[]) rfl _ _ _ rfl W0.heap.size _ 8 _ rfl HO3.out (.slice a4 m4 c4) m4 ((bytesK pool).map encB) rfl (HS4.out.src encB_cell Try.underlying29 c4) (by have := HPL.out; have := HN4.out; omega) (by have := HPL.out; have := HN4.out; unfold maxLen; omega) hSw.size ?_
      intro v5 W5 hown5 _ hb5
      rw [← List.map_append] at hown5
      have HO5 := Lib.hid (own_mono hown5 HB0.out.size)
      obtain ⟨a5, c5, rfl, -, -⟩ := Sl.ofOwn HO5.out
      replace hSw : Below W0.heap.size W0 W5 := hSw.trans hb5
      clear hown5 hb5 HO3 HS4
      go_simp
      first | refine hK _ _ ?_ | refine ⟨hSw, hK _ _ ?_⟩
      clear hK K
      have HT5 := Lib.hid (row_below HT0.out hSw)
      have HB5 := Lib.hid (HB0.out.trans (hSw.mono HB0.out.size))
      refine lexS_stir (EqW W5) (fun y hy => by rw [show y = W5 from hy]; exact hSw) rfl ?_
      clear hSw
      iterate 1
        refine stir_step (fun K hK => ?_)
        simp only [stirOp, List.getElem?_toArray, List.getElem?_cons_succ, List.getElem?_cons_zero]
        rw [if_pos (by rfl)]
        apply Exists.intro
        refine ⟨fun w' hS' => ?_, ?_⟩
        · first | (go_simp <;> with_reducible rfl) | (go_simp; go_bits; with_reducible rfl)
        go_simp
        try go_bits
        refine hK _ ?_
        clear hK K
      refine stir_nil (fun y hy => ?_)
      obtain rfl : y = W5 := hy
      go_wp2_with fail
      go_meet
      exact ⟨a5, _, c5, rfl, HO5, HB5, HT5⟩
    · intro K hK
      simp only [lexOp, List.getElem?_toArray, List.getElem?_cons_succ, List.getElem?_cons_zero]
      rw [if_pos (by rfl)]
      go_step
      have hbz := below_1 W0.drew (.cells #[.int .i64 0, .int .i64 45] 3)
      have HZ := Lib.hid (Sl.litZ W0.drew 2 [0, 45] 3 rfl)
      refine ⟨hSw.trans (hbz.mono hSw.size), hK _ _ ?_⟩
      replace hSw := hSw.trans (hbz.mono hSw.size)
      clear hK K hbz
      refine lexS_step (fun K hK => ?_)
      simp only [lexOp, List.getElem?_toArray, List.getElem?_cons_succ, List.getElem?_cons_zero]
      rw [if_pos (by rfl)]
      go_step
      refine (refPut_any _ none 0 0 [] 3405691582 4 (Sl.nil _ _) (by decide) (by decide) (by decide) (by decide)).mono ?_
      rintro e' W1 ⟨v1, m1, rfl, ho1, hb1⟩
      rw [List.nil_append] at ho1
      obtain ⟨a1, c1, rfl, hs1, -⟩ := Sl.ofOwn ho1
      have hm1 : m1 = 4 := by rw [own_lenB ho1, putB_length]
      subst hm1
      replace hSw : Below W0.heap.size W0 W1 := hSw.trans (hb1.mono hSw.size)
      have HZ := Lib.hid (HZ.out.below hb1)
      have HS1 := Lib.hid (show Sl encB W1 a1 4 (z4 3405691582) from hs1)
      clear ho1 hb1 hs1
      go_simp
      first | refine hK _ _ ?_ | refine ⟨hSw, hK _ _ ?_⟩
      clear hK K
      refine lexS_step (fun K hK => ?_)
      simp only [lexOp, List.getElem?_toArray, List.getElem?_cons_succ, List.getElem?_cons_zero]
      rw [if_pos (by rfl)]
      go_step
      refine (ru2_any _ a1 4 c1 _ HS1.out _ 2 2 [0, 45] HZ.out (by decide) (by decide)).mono ?_
      rintro e' W3 ⟨v3, m3, rfl, ho3, hb3⟩
      obtain ⟨a3, c3, rfl, -, -⟩ := Sl.ofOwn ho3
      have hm3 : m3 = 8 := by rw [own_lenB ho3, List.length_append, z2_len, z4_len]; rfl
      subst hm3
      have HO3 := Lib.hid (own_mono ho3 hSw.size)
      replace hSw : Below W0.heap.size W0 W3 := hSw.trans (hb3.mono hSw.size)
      clear ho3 hb3 HS1 HZ
      go_simp
      first | refine hK _ _ ?_ | refine ⟨hSw, hK _ _ ?_⟩
      clear hK K
      refine lexS_step (fun K hK => ?_)
      simp only [lexOp, List.getElem?_toArray, List.getElem?_cons_succ, List.getElem?_cons_zero]
      rw [if_pos (by rfl)]
      go_step
      refine ((refBytes_any _ pa pn pc pool (HX.out.pool.below (HB0.out.trans (hSw.mono HB0.out.size))) hpn HPS.out HPO.out HPL.out)).mono ?_
      rintro e' W4 ⟨v4, m4, rfl, ho4, hb4⟩
      obtain ⟨a4, c4, rfl, hs4, -⟩ := Sl.ofOwn ho4
      have HS4 := Lib.hid hs4
      have HN4 := Lib.hid (own_lenB ho4)
      have HO3 := Lib.hid (own_below HO3.out hb4)
      replace hSw : Below W0.heap.size W0 W4 := hSw.trans (hb4.mono hSw.size)
      clear ho4 hb4 hs4
      go_simp
      first | refine hK _ _ ?_ | refine ⟨hSw, hK _ _ ?_⟩
      clear hK K
      refine lexS_step (fun K hK => ?_)
      simp only [lexOp, List.getElem?_toArray, List.getElem?_cons_succ, List.getElem?_cons_zero]
      rw [if_pos (by rfl)]
      change Oper.wp _ _ _ _ _ _
      refine wp_appK oneN (ops := #[]) rfl _ _ _ rfl W0.heap.size _ 8 _ rfl HO3.out (.slice a4 m4 c4) m4 ((bytesK pool).map encB) rfl (HS4.out.src encB_cell Try.underlying29 c4) (by have := HPL.out; have := HN4.out; omega) (by have := HPL.out; have := HN4.out; unfold maxLen; omega) hSw.size ?_
      intro v5 W5 hown5 _ hb5
      rw [← List.map_append] at hown5
      have HO5 := Lib.hid (own_mono hown5 HB0.out.size)
      obtain ⟨a5, c5, rfl, -, -⟩ := Sl.ofOwn HO5.out
      replace hSw : Below W0.heap.size W0 W5 := hSw.trans hb5
      clear hown5 hb5 HO3 HS4
      go_simp
      first | refine hK _ _ ?_ | refine ⟨hSw, hK _ _ ?_⟩
      clear hK K
      have HT5 := Lib.hid (row_below HT0.out hSw)
      have HB5 := Lib.hid (HB0.out.trans (hSw.mono HB0.out.size))
      refine lexS_stir (EqW W5) (fun y hy => by rw [show y = W5 from hy]; exact hSw) rfl ?_
      clear hSw
      iterate 1
        refine stir_step (fun K hK => ?_)
        simp only [stirOp, List.getElem?_toArray, List.getElem?_cons_succ, List.getElem?_cons_zero]
        rw [if_pos (by rfl)]
        apply Exists.intro
        refine ⟨fun w' hS' => ?_, ?_⟩
        · first | (go_simp <;> with_reducible rfl) | (go_simp; go_bits; with_reducible rfl)
        go_simp
        try go_bits
        refine hK _ ?_
        clear hK K
      refine stir_nil (fun y hy => ?_)
      obtain rfl : y = W5 := hy
      go_wp2_with fail
      go_meet
      exact ⟨a5, _, c5, rfl, HO5, HB5, HT5⟩
  case rest =>
    obtain ⟨a5, n5, c5, rfl, HO5, HB5, HT5⟩ := hcut
    clear HT0 HB0
    obtain ⟨d, hd⟩ : ∃ d, d = z4 3405691582 ++ z2 [0, 45] ++ bytesK pool := ⟨_, rfl⟩
    rw [← hd] at HO5 HR
    have HDL := Lib.hid (show d.length = 8 + (bytesK pool).length by rw [hd]; simp only [List.length_append, z2_len, z4_len, List.length_cons, List.length_nil])
    clear hd
    have HN5 := Lib.hid (own_lenB HO5.out)
    have hn5 : n5 ≤ 1000008 := by have h1 := HN5.out; have h2 := HDL.out; have h3 := HPL.out; omega
    have k1 := row_cell HT5.out 1 rfl
    have k2 := row_cell HT5.out 2 rfl
    have k3 := row_cell HT5.out 3 rfl
    dsimp at k1 k2 k3
    have HU := Lib.hid (ru2_lit wc a5 n5 c5 _ (own_slB HO5.out) 5 [33, th, su, 0, (fn : Int)] rfl (by decide) (by omega))
    go_wp2_with fail
    refine HU.out.mono ?_
    rintro e' W6 ⟨v6, m6, rfl, ho6, hb6⟩
    obtain ⟨a6, c6, rfl, -, -⟩ := Sl.ofOwn ho6
    have HO6 := Lib.hid (own_mono ho6 HB5.out.size)
    have HB6 := Lib.hid (HB5.out.trans (hb6.mono HB5.out.size))
    have HT6 := Lib.hid (row_below HT5.out hb6)
    clear ho6 hb6 HU HO5 HB5 HT5 k1 k2 k3 HN5 hn5
    obtain ⟨d2, hd2⟩ : ∃ d2, d2 = d ++ z2 [33, th, su, 0, (fn : Int)] := ⟨_, rfl⟩
    rw [← hd2] at HO6 HR
    have HDL := Lib.hid (show d2.length = 18 + (bytesK pool).length by rw [hd2, List.length_append, HDL.out, z2_len]; simp only [List.length_cons, List.length_nil]; omega)
    clear hd2
    have k3 := row_cell HT6.out 3 rfl
    dsimp at k3
    go_wp2_with fail
    clear k3
    go_loopg [29, 3] fn (fun gn i v wr => ∃ (j : Nat) (a' : Option Addr) (n' c' : Nat), j ≤ fn ∧ gn = fn - j ∧ i = .int .i64 j ∧ v = .slice a' n' c' ∧ Hid (wr.ownsRow w.heap.size 5 1 (.slice a' n' c') n' ((d2 ++ (fields.take j).flatMap fieldB).map encB)) ∧ Hid (Below w.heap.size w wr) ∧ Hid (wr.heap[bf]? = some (.cells #[.slice pa pn pc, .int .i64 th, .int .i64 su, .slice fa fn fc, .slice ma mn mc] 26)))
    case atStart => exact ⟨0, a6, m6, c6, by omega, by omega, by go_num, rfl, Lib.hid (by simpa using HO6.out), HB6, HT6⟩
    case round =>
      clear HO6 HB6 HT6
      obtain ⟨j, a', n', c', hj, rfl, rfl, rfl, HO, HB, HT⟩ := hrel
      by_cases hlt : j < fn
      · obtain ⟨b, off, x, rfl, _, hv, q⟩ := Ss.getC (HX.out.fields.below HB.out) j hlt
        have HF := Lib.hid (show d2 ++ (fields.take (j + 1)).flatMap fieldB = (d2 ++ (fields.take j).flatMap fieldB) ++ fieldB x by rw [flat_take fieldB fields j x hv, List.append_assoc])
        have hroom : n' + 8 ≤ 1000000 := by
          have h1 := flat_room fieldB fields j x hv
          have h2 := own_lenB HO.out
          have h3 := HLEN.out
          rw [List.length_append, HDL.out] at h2
          have h4 := fields_len fields
          rw [fieldB_len] at h1
          rw [HL2.out] at h4
          omega
        obtain ⟨fl, nm, ds⟩ := x
        have HTB := Lib.hid (show fieldB ⟨fl, nm, ds⟩ = z2 [fl, nm, ds, 0] from rfl)
        rw [HTB.out] at HF
        have q0 : wr.cell? ⟨b, off + j * 3, none⟩ = some (.int .i64 fl) := q 0 (by omega)
        have q1 : wr.cell? ⟨b, off + j * 3 + 1, none⟩ = some (.int .i64 nm) := q 1 (by omega)
        have q2 : wr.cell? ⟨b, off + j * 3 + 2, none⟩ = some (.int .i64 ds) := q 2 (by omega)
        clear q hv HTB
        have hal : Below wr.heap.size wr (wr.alloc (.cells #[.int .i64 fl, .int .i64 nm, .int .i64 ds] 59)) := below_1 _ _
        have HXF := Lib.hid (heap_alloc_last wr (.cells #[.int .i64 fl, .int .i64 nm, .int .i64 ds] 59))
        have HB2 := Lib.hid (HB.out.trans (hal.mono HB.out.size))
        have HT2 := Lib.hid (row_below HT.out hal)
        have HO2 := Lib.hid (own_below HO.out hal)
        have hj1 : (j : Int) < fn := by omega
        go_upto_region 6 with fail
        clear q0 q1 q2 hal HB HT HO
        generalize wr.alloc (.cells #[.int .i64 fl, .int .i64 nm, .int .i64 ds] 59) = W7 at *
        generalize wr.heap.size = bt at *
        have k0 := row_cell HXF.out 0 rfl
        have k1 := row_cell HXF.out 1 rfl
        have k2 := row_cell HXF.out 2 rfl
        dsimp at k0 k1 k2
        have HU := Lib.hid (ru2_lit W7 a' n' c' _ (own_slB HO2.out) 4 [fl, nm, ds, 0] rfl (by decide) (by omega))
        go_wp2_with fail
        refine HU.out.mono ?_
        rintro e' W8 ⟨v8, m8, rfl, ho8, hb8⟩
        obtain ⟨a8, c8, rfl, -, -⟩ := Sl.ofOwn ho8
        have HO8 := Lib.hid (own_mono ho8 HB2.out.size)
        have HB8 := Lib.hid (HB2.out.trans (hb8.mono HB2.out.size))
        have HT8 := Lib.hid (row_below HT2.out hb8)
        clear ho8 hb8 HU HB2 HT2 HO2 k0 k1 k2 HXF
        go_wp2_with fail
        go_roundg (fn - (j + 1))
        case measure => omega
        case rel => exact ⟨j + 1, a8, m8, c8, by omega, rfl, by go_num, rfl, Lib.hid (by rw [HF.out]; exact HO8.out), HB8, HT8⟩
      · obtain rfl : fn = j := by omega
        have HE := Lib.hid (show fields.take fn = fields by rw [List.take_of_length_le (by rw [HL2.out]; exact Nat.le_refl _)])
        rw [HE.out] at HO
        obtain ⟨d3, hd3⟩ : ∃ d3, d3 = d2 ++ fields.flatMap fieldB := ⟨_, rfl⟩
        rw [← hd3] at HO HR
        have HDL3 := Lib.hid (show d3.length = 18 + (bytesK pool).length + fn * 8 by rw [hd3, List.length_append, HDL.out, fields_len, HL2.out])
        clear hd3 HE HDL
        have HN3 := Lib.hid (own_lenB HO.out)
        have hn3 : n' ≤ 1000000 := by have h1 := HN3.out; have h2 := HDL3.out; have h3 := HLEN.out; omega
        have k4 := row_cell HT.out 4 rfl
        dsimp at k4
        have HU := Lib.hid (ru2_lit wr a' n' c' _ (own_slB HO.out) 1 [(mn : Int)] rfl (by decide) (by omega))
        go_wp2_with fail
        refine HU.out.mono ?_
        rintro e' W6 ⟨v6, m6, rfl, ho6, hb6⟩
        obtain ⟨a6, c6, rfl, -, -⟩ := Sl.ofOwn ho6
        have HO6 := Lib.hid (own_mono ho6 HB.out.size)
        have HB6 := Lib.hid (HB.out.trans (hb6.mono HB.out.size))
        have HT6 := Lib.hid (row_below HT.out hb6)
        clear ho6 hb6 HU HO HB HT k4 HN3 hn3
        obtain ⟨d4, hd4⟩ : ∃ d4, d4 = d3 ++ z2 [(mn : Int)] := ⟨_, rfl⟩
        rw [← hd4] at HO6 HR
        have HDL4 := Lib.hid (show d4.length = 20 + (bytesK pool).length + fn * 8 by rw [hd4, List.length_append, HDL3.out, z2_len]; simp only [List.length_cons, List.length_nil]; omega)
        clear hd4 HDL3
        have k4 := row_cell HT6.out 4 rfl
        dsimp at k4
        go_wp2_with fail
        clear k4
        go_loopg [52, 3] mn (fun gn i v wr => ∃ (j : Nat) (a' : Option Addr) (n' c' : Nat), j ≤ mn ∧ gn = mn - j ∧ i = .int .i64 j ∧ v = .slice a' n' c' ∧ Hid (wr.ownsRow w.heap.size 5 1 (.slice a' n' c') n' ((d4 ++ (methods.take j).flatMap (methB pool)).map encB)) ∧ Hid (Below w.heap.size w wr) ∧ Hid (wr.heap[bf]? = some (.cells #[.slice pa pn pc, .int .i64 th, .int .i64 su, .slice fa fn fc, .slice ma mn mc] 26)))
        case atStart => exact ⟨0, a6, m6, c6, by omega, by omega, by go_num, rfl, Lib.hid (by simpa using HO6.out), HB6, HT6⟩
        case round =>
          clear HO6 HB6 HT6
          obtain ⟨j, a', n', c', hj, rfl, rfl, rfl, HO, HB, HT⟩ := hrel
          by_cases hlt : j < mn
          · obtain ⟨b, off, x, rfl, _, hv, q⟩ := Ss.getC (HX.out.methods.below HB.out) j hlt
            have HF := Lib.hid (show d4 ++ (methods.take (j + 1)).flatMap (methB pool) = (d4 ++ (methods.take j).flatMap (methB pool)) ++ methB pool x by rw [flat_take (methB pool) methods j x hv, List.append_assoc])
            have hroom : n' + (methB pool x).length ≤ 1000000 := by
              have h1 := flat_room (methB pool) methods j x hv
              have h2 := own_lenB HO.out
              have h3 := HLEN.out
              rw [List.length_append, HDL4.out] at h2
              omega
            have HXR := Lib.hid (HX.out.each x (List.mem_of_getElem? hv))
            have HTB := Lib.hid (show methB pool x = z2 [x.fl, x.nm, x.ds, 1, (findT pool sCode : Int)] ++ z4 (codeB pool x).length ++ codeB pool x from rfl)
            rw [HTB.out] at HF
            rw [HTB.out, List.length_append, List.length_append, z2_len, z4_len, List.length_cons, List.length_cons, List.length_cons, List.length_cons, List.length_cons, List.length_nil] at hroom
            have HCC := Lib.hid (fun w' (hb : Below w.heap.size w w') => rcodeB_any w' pa pn pc pool (HX.out.pool.below hb) hpn x (HXR.out.below hb) (by omega))
            generalize codeB pool x = cB at *
            obtain ⟨fl, nm, ds, st, lo, ca, cn, cc, code, ta, tn, tc, traps, na, nn, nc, maps⟩ := x
            dsimp only at HF HCC
            have q0 : wr.cell? ⟨b, off + j * 8, none⟩ = some (.int .i64 fl) := q 0 (by omega)
            have q1 : wr.cell? ⟨b, off + j * 8 + 1, none⟩ = some (.int .i64 nm) := q 1 (by omega)
            have q2 : wr.cell? ⟨b, off + j * 8 + 2, none⟩ = some (.int .i64 ds) := q 2 (by omega)
            have q3 : wr.cell? ⟨b, off + j * 8 + 3, none⟩ = some (.int .i64 st) := q 3 (by omega)
            have q4 : wr.cell? ⟨b, off + j * 8 + 4, none⟩ = some (.int .i64 lo) := q 4 (by omega)
            have q5 : wr.cell? ⟨b, off + j * 8 + 5, none⟩ = some (.slice ca cn cc) := q 5 (by omega)
            have q6 : wr.cell? ⟨b, off + j * 8 + 6, none⟩ = some (.slice ta tn tc) := q 6 (by omega)
            have q7 : wr.cell? ⟨b, off + j * 8 + 7, none⟩ = some (.slice na nn nc) := q 7 (by omega)
            clear q hv HTB HXR
            have hal : Below wr.heap.size wr (wr.alloc (.cells #[.int .i64 fl, .int .i64 nm, .int .i64 ds, .int .i64 st, .int .i64 lo, .slice ca cn cc, .slice ta tn tc, .slice na nn nc] 48)) := below_1 _ _
            have HXM := Lib.hid (heap_alloc_last wr (.cells #[.int .i64 fl, .int .i64 nm, .int .i64 ds, .int .i64 st, .int .i64 lo, .slice ca cn cc, .slice ta tn tc, .slice na nn nc] 48))
            have HB2 := Lib.hid (HB.out.trans (hal.mono HB.out.size))
            have HT2 := Lib.hid (row_below HT.out hal)
            have HO2 := Lib.hid (own_below HO.out hal)
            have hj1 : (j : Int) < mn := by omega
            go_upto_region 12 with fail
            clear q0 q1 q2 q3 q4 q5 q6 q7 hal HB HT HO
            generalize wr.alloc (.cells #[.int .i64 fl, .int .i64 nm, .int .i64 ds, .int .i64 st, .int .i64 lo, .slice ca cn cc, .slice ta tn tc, .slice na nn nc] 48) = V1 at *
            generalize wr.heap.size = bt at *
            have p0 := row_cell HXM.out 0 rfl
            have p1 := row_cell HXM.out 1 rfl
            have p2 := row_cell HXM.out 2 rfl
            have p3 := row_cell HXM.out 3 rfl
            have p4 := row_cell HXM.out 4 rfl
            have p5 := row_cell HXM.out 5 rfl
            have p6 := row_cell HXM.out 6 rfl
            have p7 := row_cell HXM.out 7 rfl
            dsimp at p0 p1 p2 p3 p4 p5 p6 p7
            have k0 := row_cell HT2.out 0 rfl
            dsimp at k0
            go_wp2_with fail
            refine (HCC.out V1 HB2.out).mono ?_
            rintro e' V2 ⟨v2, m2, rfl, ho2, hb2⟩
            obtain ⟨a2, c2, rfl, -, -⟩ := Sl.ofOwn ho2
            have HN2 := Lib.hid (own_lenB ho2)
            have HC2 := Lib.hid ho2
            have HB3 := Lib.hid (HB2.out.trans (hb2.mono HB2.out.size))
            have HT3 := Lib.hid (row_below HT2.out hb2)
            have HX3 := Lib.hid (row_below HXM.out hb2)
            have HO3 := Lib.hid (own_below HO2.out hb2)
            clear ho2 hb2 HCC p0 p1 p2 p3 p4 p5 p6 p7 k0 HB2 HT2 HXM HO2
            go_upto_region 13 with fail
            have k0 := row_cell HT3.out 0 rfl
            have p0 := row_cell HX3.out 0 rfl
            have p1 := row_cell HX3.out 1 rfl
            have p2 := row_cell HX3.out 2 rfl
            dsimp at k0 p0 p1 p2
            have l0 := fun w' (h : Below V2.heap.size V2 w') => cellS_below h k0
            have l1 := fun w' (h : Below V2.heap.size V2 w') => cellS_below h p0
            have l2 := fun w' (h : Below V2.heap.size V2 w') => cellS_below h p1
            have l3 := fun w' (h : Below V2.heap.size V2 w') => cellS_below h p2
            clear k0 p0 p1 p2
            have HFI := fun w' (hb : Below V2.heap.size V2 w') => rfind_any w' pa pn pc pool sCode (HX.out.pool.below (HB3.out.trans (hb.mono HB3.out.size))) hpn
            generalize findT pool sCode = fk at *
            unfold sCode at HFI
            replace HFI := Lib.hid HFI
            have hSw : Below V2.heap.size V2 V2.drew := (Below.refl _ _).drew
            refine wp_region_lex (Below V2.heap.size V2) [(0, true), (1, true), (2, true), (3, true), (4, true), (5, true), (6, true), (7, true), (8, true), (12, true), (13, true), (15, true), (9, false), (10, false), (11, false), (14, false), (16, false), (17, true)] (by kernel_rfl) (by kernel_rfl) (fun c a d v w h => by cases d <;> exact h) ?_
            iterate 12
              refine lex_step (fun K hK => ?_)
              simp only [lexOp, List.getElem?_toArray, List.getElem?_cons_succ, List.getElem?_cons_zero]
              rw [if_pos (by rfl)]
              apply Exists.intro
              refine ⟨fun w' hS' => ?_, hSw, ?_⟩
              · first | (go_simp <;> with_reducible rfl) | (go_simp; go_bits; with_reducible rfl)
              go_simp
              try go_bits
              refine hK _ _ ?_
              clear hK K
            refine lex_step (fun K hK => ?_)
            simp only [lexOp, List.getElem?_toArray, List.getElem?_cons_succ, List.getElem?_cons_zero]
            rw [if_pos (by rfl)]
            go_step
            refine (HFI.out _ hSw).mono ?_
            rintro e' V3 ⟨rfl, hb3⟩
            replace hSw : Below V2.heap.size V2 V3 := hSw.trans (hb3.mono hSw.size)
            clear hb3 HFI
            go_simp
            first | refine hK _ _ ?_ | refine ⟨hSw, hK _ _ ?_⟩
            clear hK K
            refine lex_step (fun K hK => ?_)
            simp only [lexOp, List.getElem?_toArray, List.getElem?_cons_succ, List.getElem?_cons_zero]
            rw [if_pos (by rfl)]
            go_step
            refine ⟨hSw.trans ((below_1 V3 _).mono hSw.size), hK _ _ ?_⟩
            clear hK K
            refine lex_step (fun K hK => ?_)
            simp only [lexOp, List.getElem?_toArray, List.getElem?_cons_succ, List.getElem?_cons_zero]
            rw [if_pos (by rfl)]
            go_step
            refine (ru2_lit V3 a' n' c' _ (own_slB (own_below HO3.out hSw)) 5 [fl, nm, ds, 1, (fk : Int)] rfl (by decide) (by omega)).mono ?_
            rintro e' V4 ⟨v4, m4, rfl, ho4, hb4⟩
            obtain ⟨a4, c4, rfl, hs4, -⟩ := Sl.ofOwn ho4
            have HS4 := Lib.hid hs4
            have HM4 := Lib.hid (show m4 = n' + 10 by rw [own_lenB ho4, List.length_append, ← own_lenB HO3.out, z2_len]; rfl)
            replace hSw : Below V2.heap.size V2 V4 := hSw.trans (hb4.mono hSw.size)
            clear ho4 hb4 hs4
            go_simp
            first | refine hK _ _ ?_ | refine ⟨hSw, hK _ _ ?_⟩
            clear hK K
            refine lex_step (fun K hK => ?_)
            simp only [lexOp, List.getElem?_toArray, List.getElem?_cons_succ, List.getElem?_cons_zero]
            rw [if_pos (by rfl)]
            go_step
            refine (ru4_any V4 a4 m4 c4 _ HS4.out (m2 : Int) (by have := HM4.out; omega)).mono ?_
            rintro e' V5 ⟨v5, m5, rfl, ho5, hb5⟩
            have HM5 := Lib.hid (show m5 = n' + 14 by rw [own_lenB ho5, List.length_append, HS4.out.1, HM4.out, z4_len])
            obtain ⟨a5', c5', rfl, -, -⟩ := Sl.ofOwn ho5
            have HO5 := Lib.hid (own_mono ho5 hSw.size)
            replace hSw : Below V2.heap.size V2 V5 := hSw.trans (hb5.mono hSw.size)
            clear ho5 hb5 HS4
            go_simp
            first | refine hK _ _ ?_ | refine ⟨hSw, hK _ _ ?_⟩
            clear hK K
            have hcap9 : m5 + m2 ≤ 1000000 := by have h1 := HN2.out; have h2 := HM5.out; omega
            refine lex_step (fun K hK => ?_)
            simp only [lexOp, List.getElem?_toArray, List.getElem?_cons_succ, List.getElem?_cons_zero]
            rw [if_pos (by rfl)]
            change Oper.wp _ _ _ _ _ _
            refine wp_appK oneN (ops := #[]) rfl _ _ _ rfl V2.heap.size _ m5 _ rfl HO5.out (.slice a2 m2 c2) m2 (cB.map encB) rfl ((own_slB (own_below HC2.out hSw)).src encB_cell Try.underlying29 c2) (by omega) (by unfold maxLen; omega) hSw.size ?_
            intro v9 V9 hown9 _ hb9
            rw [← List.map_append] at hown9
            have HO9 := Lib.hid (own_mono hown9 HB3.out.size)
            obtain ⟨a9, c9, rfl, -, -⟩ := Sl.ofOwn HO9.out
            replace hSw : Below V2.heap.size V2 V9 := hSw.trans hb9
            clear hown9 hb9 HO5
            go_simp
            first | refine hK _ _ ?_ | refine ⟨hSw, hK _ _ ?_⟩
            clear hK K
            iterate 1
              refine lex_step (fun K hK => ?_)
              simp only [lexOp, List.getElem?_toArray, List.getElem?_cons_succ, List.getElem?_cons_zero]
              rw [if_pos (by rfl)]
              apply Exists.intro
              refine ⟨fun w' hS' => ?_, hSw, ?_⟩
              · first | (go_simp <;> with_reducible rfl) | (go_simp; go_bits; with_reducible rfl)
              go_simp
              try go_bits
              refine hK _ _ ?_
              clear hK K
            refine lex_nil ?_
            have HB9 := Lib.hid (HB3.out.trans (hSw.mono HB3.out.size))
            have HT9 := Lib.hid (row_below HT3.out hSw)
            have HF := Lib.hid (show d4 ++ (methods.take (j + 1)).flatMap (methB pool) = d4 ++ (methods.take j).flatMap (methB pool) ++ z2 [fl, nm, ds, 1, (fk : Int)] ++ z4 (m2 : Int) ++ cB by rw [HF.out, ← HN2.out]; simp only [List.append_assoc])
            clear l0 l1 l2 l3 hSw HB3 HT3 HX3 HO3 HN2 hcap9
            go_wp2_with fail
            go_roundg (mn - (j + 1))
            case measure => omega
            case rel => exact ⟨j + 1, a9, _, c9, by omega, rfl, by go_num, rfl, Lib.hid (by rw [HF.out]; exact HO9.out), HB9, HT9⟩
          · obtain rfl : mn = j := by omega
            have HE := Lib.hid (show methods.take mn = methods by rw [List.take_of_length_le (by rw [HL3.out]; exact Nat.le_refl _)])
            rw [HE.out] at HO
            have HN := Lib.hid (own_lenB HO.out)
            have hn9 : n' ≤ 1000000 := by
              have h1 := HN.out
              have h3 := HLEN.out
              rw [List.length_append, HDL4.out] at h1
              omega
            have HU := Lib.hid (ru2_lit wr a' n' c' _ (own_slB HO.out) 1 [0] rfl (by decide) (by omega))
            go_wp2_with fail
            refine HU.out.mono ?_
            rintro e' W7 ⟨v7, m7, rfl, ho7, hb7⟩
            obtain ⟨a7, c7, rfl, -, -⟩ := Sl.ofOwn ho7
            go_wp2_with fail
            go_ret
            exact ⟨_, _, rfl, by rw [HR.out]; exact own_mono ho7 HB.out.size, HB.out.trans (hb7.mono HB.out.size)⟩
end Go.Proofs.Ytnfhiakdbakpgaa
