/- asm: own texts, merged (wip/merge2.py). No condition. -/
import Derived.Test.YtclpkipaehpkdaaGreatDoorQ28AsmNames
set_option linter.unusedVariables false
set_option linter.unusedSimpArgs false
namespace Go.Proofs.YtclpkipaehpkdaaGreatDoor
open Go.ChangeShapes Go.WideShapes Go.ChangeAt Go.RowKit
theorem UM.Fit.rows {m : UM} {w : World} (hf : m.Fit) (hr : m.Rd w) : ∀ p ∈ m.maps, p.ln ≤ 1000000000 ∧ p.sn ≤ 1000000000 := by
  intro p hp
  have h1 := (hr.each p hp).loc.1
  have h2 := (hr.each p hp).stk.1
  have h3 := (hf.mp p hp).loc
  have h4 := (hf.mp p hp).stk
  omega
set_option maxRecDepth 100000 in
set_option maxHeartbeats 32000000 in
theorem SameU_yes (w : World) (x y : UU) (hx : x.Rd w) (hy : y.Rd w) (hp : x.p = y.p) (hb : x.Fit) :
    Calls Tryz.prog 12 #[.agg x.cells.toArray, .agg y.cells.toArray] w (BoolRet true w) := by
  have HX := Lib.hid hx
  have HY := Lib.hid hy
  have hfn := hb.fields
  have hmn := hb.methods
  have HBE := Lib.hid hb.mt
  have l2 := hx.fields.1
  have l3 := hx.methods.1
  have r2 := hy.fields.1
  have r3 := hy.methods.1
  clear hx hy hb
  obtain ⟨nm, su, fa, fn, fc, fields, ma, mn, mc, methods⟩ := x
  obtain ⟨nm2, su2, fa2, fn2, fc2, fields2, ma2, mn2, mc2, methods2⟩ := y
  simp only [UU.p, UU.mk.injEq] at hp
  obtain ⟨rfl, rfl, -, -, -, rfl, -, -, -, hpm⟩ := hp
  dsimp only at *
  have l4 := congrArg List.length hpm
  rw [List.length_map, List.length_map] at l4
  obtain rfl : fn = fn2 := by omega
  obtain rfl : mn = mn2 := by omega
  have hfn' : fn ≤ 1024 := by omega
  have hmn' : mn ≤ 1024 := by omega
  have HPM := Lib.hid hpm
  unfold UU.cells
  dsimp only
  clear l2 l3 r2 r3 l4 hpm hfn hmn
  have hal1 : Below w.heap.size w (w.alloc (.cells #[.string ⟨nm.toArray⟩, .string ⟨su.toArray⟩, .slice fa fn fc, .slice ma mn mc] 32)) := below_1 _ _
  have hal2 := below_1 (w.alloc (.cells #[.string ⟨nm.toArray⟩, .string ⟨su.toArray⟩, .slice fa fn fc, .slice ma mn mc] 32)) (.cells #[.string ⟨nm.toArray⟩, .string ⟨su.toArray⟩, .slice fa2 fn fc2, .slice ma2 mn mc2] 32)
  have HT1 := Lib.hid (row_below (heap_alloc_last w (.cells #[.string ⟨nm.toArray⟩, .string ⟨su.toArray⟩, .slice fa fn fc, .slice ma mn mc] 32)) hal2)
  have HT2 := heap_alloc_last (w.alloc (.cells #[.string ⟨nm.toArray⟩, .string ⟨su.toArray⟩, .slice fa fn fc, .slice ma mn mc] 32)) (.cells #[.string ⟨nm.toArray⟩, .string ⟨su.toArray⟩, .slice fa2 fn fc2, .slice ma2 mn mc2] 32)
  rw [show (w.alloc (.cells #[.string ⟨nm.toArray⟩, .string ⟨su.toArray⟩, .slice fa fn fc, .slice ma mn mc] 32)).heap.size = w.heap.size + 1 by simp] at HT2
  replace HT2 := Lib.hid HT2
  have HB0 := Lib.hid (hal1.trans (hal2.mono hal1.size))
  clear hal1 hal2
  go_enter Tryz.func12, Tryz.ntmps12
  go_upto_region 1 with fail
  generalize (w.alloc (.cells #[.string ⟨nm.toArray⟩, .string ⟨su.toArray⟩, .slice fa fn fc, .slice ma mn mc] 32)).alloc (.cells #[.string ⟨nm.toArray⟩, .string ⟨su.toArray⟩, .slice fa2 fn fc2, .slice ma2 mn mc2] 32) = W0 at *
  obtain ⟨u1, hu1⟩ : ∃ b, b = w.heap.size := ⟨_, rfl⟩
  obtain ⟨u2, hu2⟩ : ∃ b, b = w.heap.size + 1 := ⟨_, rfl⟩
  rw [← hu1] at HT1
  rw [← hu2] at HT2
  rw [← hu2, ← hu1]
  clear hu1 hu2
  go_cut [36] (fun r wx => r = .bool false ∧ wx = W0)
  case first =>
    have k0 := row_cell HT1.out 0 rfl
    have j0 := row_cell HT2.out 0 rfl
    have k1 := row_cell HT1.out 1 rfl
    have j1 := row_cell HT2.out 1 rfl
    have k2 := row_cell HT1.out 2 rfl
    have j2 := row_cell HT2.out 2 rfl
    have k3 := row_cell HT1.out 3 rfl
    have j3 := row_cell HT2.out 3 rfl
    dsimp at k0 j0 k1 j1 k2 j2 k3 j3
    have e1 := bytes_neL nm
    have e2 := bytes_neL su
    have e3 : ((fn : Int) != (fn : Int)) = false := by simp
    have e4 : ((mn : Int) != (mn : Int)) = false := by simp
    go_wp2_with fail
    go_meet
    exact ⟨by simp, rfl⟩
  case rest =>
    obtain ⟨rfl, rfl⟩ := hcut
    have k2 := row_cell HT1.out 2 rfl
    dsimp at k2
    go_wp2_with fail
    clear k2
    go_loopg [40] fn (fun gn i wr => ∃ j : Nat, j ≤ fn ∧ gn = fn - j ∧ i = .int .i64 j ∧ Hid (Below wc.heap.size wc wr))
    case atStart => exact ⟨0, by omega, by omega, by go_num, Lib.hid (Below.refl _ _)⟩
    case round =>
      obtain ⟨j, hj, rfl, rfl, HB⟩ := hrel
      have HWB := Lib.hid (HB0.out.trans (HB.out.mono HB0.out.size))
      by_cases hlt : j < fn
      · skip
        obtain ⟨b1, off1, x, rfl, _, hv, p⟩ := Ss.getC (HX.out.fields.below HWB.out) j hlt
        obtain ⟨b2, off2, y, rfl, _, hv2, q⟩ := Ss.getC (HY.out.fields.below HWB.out) j hlt
        obtain rfl : x = y := by rw [hv] at hv2; exact Option.some.inj hv2
        obtain ⟨fl, nx, dx⟩ := x
        have p0 : wr.cell? ⟨b1, off1 + j * 3, none⟩ = some (.bool fl) := p 0 (by omega)
        have p1 : wr.cell? ⟨b1, off1 + j * 3 + 1, none⟩ = some (.string ⟨nx.toArray⟩) := p 1 (by omega)
        have p2 : wr.cell? ⟨b1, off1 + j * 3 + 2, none⟩ = some (.string ⟨dx.toArray⟩) := p 2 (by omega)
        have q0 : wr.cell? ⟨b2, off2 + j * 3, none⟩ = some (.bool fl) := q 0 (by omega)
        have q1 : wr.cell? ⟨b2, off2 + j * 3 + 1, none⟩ = some (.string ⟨nx.toArray⟩) := q 1 (by omega)
        have q2 : wr.cell? ⟨b2, off2 + j * 3 + 2, none⟩ = some (.string ⟨dx.toArray⟩) := q 2 (by omega)
        have k6 := row_cell (row_below HT1.out HB.out) 2 rfl
        have j6 := row_cell (row_below HT2.out HB.out) 2 rfl
        dsimp at k6 j6
        clear p q hv hv2
        have hj1 : (j : Int) < fn := by omega
        go_upto_region 6 with fail
        have hSw : EqW wr.drew wr.drew := rfl
        have l0 := fun u (h : EqW wr.drew u) => eqw_cell h p0
        have m0 := fun u (h : EqW wr.drew u) => eqw_cell h q0
        have l1 := fun u (h : EqW wr.drew u) => eqw_cell h p1
        have m1 := fun u (h : EqW wr.drew u) => eqw_cell h q1
        have l2 := fun u (h : EqW wr.drew u) => eqw_cell h p2
        have m2 := fun u (h : EqW wr.drew u) => eqw_cell h q2
        have n0 := fun u (h : EqW wr.drew u) => eqw_cell h k6
        have n1 := fun u (h : EqW wr.drew u) => eqw_cell h j6
        have HNE := Lib.hid (fun u o1 o2 => usfield_neq u fl nx dx o1 o2)
        clear p0 q0 p1 q1 p2 q2 k6 j6
        refine wp_region_lexS (EqW wr.drew) (.stir [(0, true), (1, true), (2, true), (3, true), (4, true), (5, true), (6, true), (7, true), (8, true), (9, true), (10, true)]) (by kernel_rfl) (by kernel_rfl) (fun c a d v w h => by cases d <;> exact h) ?_
        refine lexS_stir (EqW wr.drew) (fun y hy => hy) rfl ?_
        iterate 10
          refine stir_step (fun K hK => ?_)
          simp only [stirOp, List.getElem?_toArray, List.getElem?_cons_succ, List.getElem?_cons_zero]
          rw [if_pos (by rfl)]
          apply Exists.intro
          refine ⟨fun w' hS' => ?_, ?_⟩
          · first | (go_simp <;> with_reducible rfl) | (go_simp; go_bits; with_reducible rfl)
          go_simp
          try go_bits
          refine hK _ ?_
          clear hK K
        refine stir_step (fun K hK => ?_)
        simp only [stirOp, List.getElem?_toArray, List.getElem?_cons_succ, List.getElem?_cons_zero]
        rw [if_pos (by rfl)]
        refine ⟨Value.bool false, fun w' hS' => ?_, ?_⟩
        · exact run_exec_binS (by rfl) (HNE.out w' _ _)
        go_simp
        refine hK _ ?_
        clear hK K
        refine stir_nil (fun u hu => ?_)
        obtain rfl : u = wr.drew := hu
        clear l0 m0 l1 m1 l2 m2 n0 n1 HNE hSw
        go_wp2_with fail
        go_roundg (fn - (j + 1))
        case measure => omega
        case rel => exact ⟨j + 1, by omega, rfl, by go_num, Lib.hid HB.out.drew⟩
      · obtain rfl : fn = j := by omega
        have HT1' := Lib.hid (row_below HT1.out HB.out)
        have HT2' := Lib.hid (row_below HT2.out HB.out)
        clear HB HB0 HT1 HT2
        have k7 := row_cell HT1'.out 3 rfl
        dsimp at k7
        go_wp2_with fail
        clear k7
        obtain ⟨W8, hW8⟩ : ∃ W8, W8 = wr := ⟨_, rfl⟩
        subst hW8
        go_loopg [58] mn (fun gn i wr => ∃ j : Nat, j ≤ mn ∧ gn = mn - j ∧ i = .int .i64 j ∧ Hid (Below W8.heap.size W8 wr))
        case atStart => exact ⟨0, by omega, by omega, by go_num, Lib.hid (Below.refl _ _)⟩
        case round =>
          obtain ⟨j, hj, rfl, rfl, HB⟩ := hrel
          have HWC := Lib.hid (HWB.out.trans (HB.out.mono HWB.out.size))
          by_cases hlt : j < mn
          · obtain ⟨b1, off1, x, rfl, _, hv, p⟩ := Ss.getC (HX.out.methods.below HWC.out) j hlt
            obtain ⟨b2, off2, y, rfl, _, hv2, q⟩ := Ss.getC (HY.out.methods.below HWC.out) j hlt
            have hpp := map_at HPM.out hv hv2
            have hxr := HX.out.each x (List.mem_of_getElem? hv)
            have hyr := HY.out.each y (List.mem_of_getElem? hv2)
            have hx4 := HBE.out x (List.mem_of_getElem? hv)
            have HCM := Lib.hid (fun w' (h : Below w.heap.size w w') => sameMethU_yes w' x y (hxr.below h) (hyr.below h) hpp hx4 (hx4.rows hxr))
            clear hpp hxr hyr hx4
            obtain ⟨st, nx, dx, sk, lo, ca, cn, cc, code, ta, tn, tc, traps, na, nn, nc, maps⟩ := x
            obtain ⟨st2, nx2, dx2, sk2, lo2, ca2, cn2, cc2, code2, ta2, tn2, tc2, traps2, na2, nn2, nc2, maps2⟩ := y
            dsimp only [UM.cells] at HCM
            have p0 : wr.cell? ⟨b1, off1 + j * 8, none⟩ = some (.bool st) := p 0 (by omega)
            have p1 : wr.cell? ⟨b1, off1 + j * 8 + 1, none⟩ = some (.string ⟨nx.toArray⟩) := p 1 (by omega)
            have p2 : wr.cell? ⟨b1, off1 + j * 8 + 2, none⟩ = some (.string ⟨dx.toArray⟩) := p 2 (by omega)
            have p3 : wr.cell? ⟨b1, off1 + j * 8 + 3, none⟩ = some (.int .i64 sk) := p 3 (by omega)
            have p4 : wr.cell? ⟨b1, off1 + j * 8 + 4, none⟩ = some (.int .i64 lo) := p 4 (by omega)
            have p5 : wr.cell? ⟨b1, off1 + j * 8 + 5, none⟩ = some (.slice ca cn cc) := p 5 (by omega)
            have p6 : wr.cell? ⟨b1, off1 + j * 8 + 6, none⟩ = some (.slice ta tn tc) := p 6 (by omega)
            have p7 : wr.cell? ⟨b1, off1 + j * 8 + 7, none⟩ = some (.slice na nn nc) := p 7 (by omega)
            have q0 : wr.cell? ⟨b2, off2 + j * 8, none⟩ = some (.bool st2) := q 0 (by omega)
            have q1 : wr.cell? ⟨b2, off2 + j * 8 + 1, none⟩ = some (.string ⟨nx2.toArray⟩) := q 1 (by omega)
            have q2 : wr.cell? ⟨b2, off2 + j * 8 + 2, none⟩ = some (.string ⟨dx2.toArray⟩) := q 2 (by omega)
            have q3 : wr.cell? ⟨b2, off2 + j * 8 + 3, none⟩ = some (.int .i64 sk2) := q 3 (by omega)
            have q4 : wr.cell? ⟨b2, off2 + j * 8 + 4, none⟩ = some (.int .i64 lo2) := q 4 (by omega)
            have q5 : wr.cell? ⟨b2, off2 + j * 8 + 5, none⟩ = some (.slice ca2 cn2 cc2) := q 5 (by omega)
            have q6 : wr.cell? ⟨b2, off2 + j * 8 + 6, none⟩ = some (.slice ta2 tn2 tc2) := q 6 (by omega)
            have q7 : wr.cell? ⟨b2, off2 + j * 8 + 7, none⟩ = some (.slice na2 nn2 nc2) := q 7 (by omega)
            have k3 := row_cell (row_below HT1'.out HB.out) 3 rfl
            have j3 := row_cell (row_below HT2'.out HB.out) 3 rfl
            dsimp at k3 j3
            clear p q hv hv2
            have hj1 : (j : Int) < mn := by omega
            go_upto_region 12 with fail
            have hSw : Below wr.heap.size wr wr.drew := (Below.refl _ _).drew
            have l0 := fun u (h : Below wr.heap.size wr u) => cellS_below h p0
            have m0 := fun u (h : Below wr.heap.size wr u) => cellS_below h q0
            have l1 := fun u (h : Below wr.heap.size wr u) => cellS_below h p1
            have m1 := fun u (h : Below wr.heap.size wr u) => cellS_below h q1
            have l2 := fun u (h : Below wr.heap.size wr u) => cellS_below h p2
            have m2 := fun u (h : Below wr.heap.size wr u) => cellS_below h q2
            have l3 := fun u (h : Below wr.heap.size wr u) => cellS_below h p3
            have m3 := fun u (h : Below wr.heap.size wr u) => cellS_below h q3
            have l4 := fun u (h : Below wr.heap.size wr u) => cellS_below h p4
            have m4 := fun u (h : Below wr.heap.size wr u) => cellS_below h q4
            have l5 := fun u (h : Below wr.heap.size wr u) => cellS_below h p5
            have m5 := fun u (h : Below wr.heap.size wr u) => cellS_below h q5
            have l6 := fun u (h : Below wr.heap.size wr u) => cellS_below h p6
            have m6 := fun u (h : Below wr.heap.size wr u) => cellS_below h q6
            have l7 := fun u (h : Below wr.heap.size wr u) => cellS_below h p7
            have m7 := fun u (h : Below wr.heap.size wr u) => cellS_below h q7
            have n0 := fun u (h : Below wr.heap.size wr u) => cellS_below h k3
            have n1 := fun u (h : Below wr.heap.size wr u) => cellS_below h j3
            have HD := Lib.hid (fun u (h : Below wr.heap.size wr u) => HCM.out u (HWC.out.trans (h.mono HWC.out.size)))
            clear k3 j3 HCM p0 q0 p1 q1 p2 q2 p3 q3 p4 q4 p5 q5 p6 q6 p7 q7
            refine wp_region_lexS (Below wr.heap.size wr) (.stir [(0, true), (1, true), (2, true), (3, true), (4, true), (5, true), (6, true), (7, true), (8, true), (9, true), (10, false), (11, true)]) (by kernel_rfl) (by kernel_rfl) (fun c a d v w h => by cases d <;> exact h) ?_
            refine lexS_stir (Below wr.heap.size wr) (fun y hy => hy) hSw ?_
            iterate 10
              refine stir_step (fun K hK => ?_)
              simp only [stirOp, List.getElem?_toArray, List.getElem?_cons_succ, List.getElem?_cons_zero]
              rw [if_pos (by rfl)]
              apply Exists.intro
              refine ⟨fun w' hS' => ?_, ?_⟩
              · first | (go_simp <;> with_reducible rfl) | (go_simp; go_bits; with_reducible rfl)
              go_simp
              try go_bits
              refine hK _ ?_
              clear hK K
            refine stir_step (fun K hK => ?_)
            simp only [stirOp, List.getElem?_toArray, List.getElem?_cons_succ, List.getElem?_cons_zero]
            rw [if_pos (by rfl)]
            apply Exists.intro
            refine ⟨fun w' hS' => ?_, ?_⟩
            · go_simp
              exact Stirs.call (Calls.mono ((HD.out w' hS')) fun e w'' h => ⟨h.1, (fun hb'' => hS'.trans (hb''.mono hS'.size)) h.2⟩)
            go_simp
            refine hK _ ?_
            clear hK K
            iterate 1
              refine stir_step (fun K hK => ?_)
              simp only [stirOp, List.getElem?_toArray, List.getElem?_cons_succ, List.getElem?_cons_zero]
              rw [if_pos (by rfl)]
              apply Exists.intro
              refine ⟨fun w' hS' => ?_, ?_⟩
              · first | (go_simp <;> with_reducible rfl) | (go_simp; go_bits; with_reducible rfl)
              go_simp
              try go_bits
              refine hK _ ?_
              clear hK K
            refine stir_nil (fun u hu => ?_)
            clear HD hSw n0 n1 l0 m0 l1 m1 l2 m2 l3 m3 l4 m4 l5 m5 l6 m6 l7 m7
            go_wp2_with fail
            go_roundg (mn - (j + 1))
            case measure => omega
            case rel => exact ⟨j + 1, by omega, rfl, by go_num, Lib.hid (HB.out.trans (hu.mono HB.out.size))⟩
          · obtain rfl : mn = j := by omega
            go_wp2_with fail
            go_ret
            exact ⟨rfl, HWC.out⟩
end Go.Proofs.YtclpkipaehpkdaaGreatDoor

