/- klass: of two classes that are the same the document's Same tells so (printed by gen/klsame.py). No condition. -/
import Derived.Test.YtnfhiakdbakpgaaQ29KlassCuts
import Derived.Laws.StructEq
namespace Go.Proofs.Ytnfhiakdbakpgaa
open Go.ChangeShapes Go.WideShapes Go.ChangeAt Go.RowKit
theorem run_exec_binS {P : Program} {ρ : Operand → Value} {o : Oper} {op : BinOp} {t : TypeId} {x y : Operand} {ty : TypeId} (ho : o.op = .binOp op t x y ty) {v : Value} {w : World}
    (h : ((eqGuard op t x y (ρ x) (ρ y)).run P w).andThen (fun _ w' => (binOp op t (ρ x) (ρ y)).run P w') = .ok v w) : (execOp ρ o).run P w = .ok (.value v) w := by
  unfold execOp
  simp only [ho, Sem.run_bind, Sem.run_pure]
  rw [h]
  rfl
theorem part_plainS {e : TypeId} {d : TypeDesc} (h1 : Try.prog.underlying e = some d) (h2 : (match d with | .struct _ | .array _ _ => false | _ => true) = true) (w : World) (cs : Array Value) (i : Nat) (v : Value) (h3 : cs[i]? = some v) : (part e cs i).run Try.prog w = .ok v w := by
  cases d <;> simp [part, isAgg, run_underlying h1, h3] at h2 ⊢
theorem eqw_cell {W u : World} {a : Addr} {v : Value} (h : EqW W.drew u) (hc : W.cell? a = some v) : u.cell? a = some v := by rw [show u = W.drew from h]; exact hc
theorem map_at {α β : Type} {f : α → β} {l m : List α} (h : l.map f = m.map f) {j : Nat} {x y : α} (hx : l[j]? = some x) (hy : m[j]? = some y) : f x = f y := by
  have e : (l.map f)[j]? = (m.map f)[j]? := by rw [h]
  rw [List.getElem?_map, List.getElem?_map, hx, hy] at e
  simpa using e
theorem slot_fields : Try.prog.underlying 119 = some (.struct (Try.prog.fieldsOf 119)) := by kernel_rfl
theorem slot_held : Try.prog.stoodInHeld 119 = false := by kernel_rfl
theorem slot_guard : Try.prog.eqGuardType Try.prog.depth 119 = false := by kernel_rfl
theorem slot_list : (Try.prog.fieldsOf 119).toList.map (fun f => (f.name, f.type, f.offset)) = [("Tag", 3, 0), ("A", 3, 1)] := by kernel_rfl
theorem slot_equal (w : World) (d : Nat) (x0 x1 : Int) : (Op.equalIn (d + 1 + 1) 119 (.agg #[.int .i64 x0, .int .i64 x1]) (.agg #[.int .i64 x0, .int .i64 x1])).run Try.prog w = .ok true w := by
  rw [run_equalIn_struct w (d + 1) _ _ _ slot_fields slot_held]
  have hl := slot_list
  match hf : (Try.prog.fieldsOf 119).toList, hl with
  | [f0, f1], hl =>
    simp only [List.map_cons, List.map_nil, List.cons.injEq, Prod.mk.injEq, and_true] at hl
    obtain ⟨⟨n0, t0, o0⟩, ⟨n1, t1, o1⟩⟩ := hl
    simp only [Op.eqFields, n0, n1, t0, t1, o0, o1]
    have i0 : ∀ (i : Nat) (cs : Array Value) (w : World) (h : i < cs.size), (part 3 cs i).run Try.prog w = .ok cs[i] w := fun i cs w h => part_plainS Try.underlying3 rfl w cs i _ (Array.getElem?_eq_getElem h)
    simp [i0, run_equalIn_int _ _ _ _ _ _ _ Try.underlying3]
  | [], hl | [_], hl | _ :: _ :: _ :: _, hl => simp at hl
theorem slot_neq (w : World) (x0 x1 : Int) (y1 y2 : Operand) : ((eqGuard .neq 119 y1 y2 (.agg #[.int .i64 x0, .int .i64 x1]) (.agg #[.int .i64 x0, .int .i64 x1])).run Try.prog w).andThen (fun _ w' => (binOp .neq 119 (.agg #[.int .i64 x0, .int .i64 x1]) (.agg #[.int .i64 x0, .int .i64 x1])).run Try.prog w') = .ok (.bool false) w := by
  have h := slot_equal w 9998 x0 x1
  rw [run_eqGuard_agg w _ _ _ _ _ _ slot_guard, Result.andThen_ok, run_neq_struct, h, Result.andThen_ok]
  rfl
theorem trap_fields : Try.prog.underlying 98 = some (.struct (Try.prog.fieldsOf 98)) := by kernel_rfl
theorem trap_held : Try.prog.stoodInHeld 98 = false := by kernel_rfl
theorem trap_guard : Try.prog.eqGuardType Try.prog.depth 98 = false := by kernel_rfl
theorem trap_list : (Try.prog.fieldsOf 98).toList.map (fun f => (f.name, f.type, f.offset)) = [("From", 3, 0), ("To", 3, 1), ("At", 3, 2), ("Class", 3, 3)] := by kernel_rfl
theorem trap_equal (w : World) (d : Nat) (x0 x1 x2 x3 : Int) : (Op.equalIn (d + 1 + 1) 98 (.agg #[.int .i64 x0, .int .i64 x1, .int .i64 x2, .int .i64 x3]) (.agg #[.int .i64 x0, .int .i64 x1, .int .i64 x2, .int .i64 x3])).run Try.prog w = .ok true w := by
  rw [run_equalIn_struct w (d + 1) _ _ _ trap_fields trap_held]
  have hl := trap_list
  match hf : (Try.prog.fieldsOf 98).toList, hl with
  | [f0, f1, f2, f3], hl =>
    simp only [List.map_cons, List.map_nil, List.cons.injEq, Prod.mk.injEq, and_true] at hl
    obtain ⟨⟨n0, t0, o0⟩, ⟨n1, t1, o1⟩, ⟨n2, t2, o2⟩, ⟨n3, t3, o3⟩⟩ := hl
    simp only [Op.eqFields, n0, n1, n2, n3, t0, t1, t2, t3, o0, o1, o2, o3]
    have i0 : ∀ (i : Nat) (cs : Array Value) (w : World) (h : i < cs.size), (part 3 cs i).run Try.prog w = .ok cs[i] w := fun i cs w h => part_plainS Try.underlying3 rfl w cs i _ (Array.getElem?_eq_getElem h)
    simp [i0, run_equalIn_int _ _ _ _ _ _ _ Try.underlying3]
  | [], hl | [_], hl | [_, _], hl | [_, _, _], hl | _ :: _ :: _ :: _ :: _ :: _, hl => simp at hl
theorem trap_neq (w : World) (x0 x1 x2 x3 : Int) (y1 y2 : Operand) : ((eqGuard .neq 98 y1 y2 (.agg #[.int .i64 x0, .int .i64 x1, .int .i64 x2, .int .i64 x3]) (.agg #[.int .i64 x0, .int .i64 x1, .int .i64 x2, .int .i64 x3])).run Try.prog w).andThen (fun _ w' => (binOp .neq 98 (.agg #[.int .i64 x0, .int .i64 x1, .int .i64 x2, .int .i64 x3]) (.agg #[.int .i64 x0, .int .i64 x1, .int .i64 x2, .int .i64 x3])).run Try.prog w') = .ok (.bool false) w := by
  have h := trap_equal w 9998 x0 x1 x2 x3
  rw [run_eqGuard_agg w _ _ _ _ _ _ trap_guard, Result.andThen_ok, run_neq_struct, h, Result.andThen_ok]
  rfl
theorem field_fields : Try.prog.underlying 59 = some (.struct (Try.prog.fieldsOf 59)) := by kernel_rfl
theorem field_held : Try.prog.stoodInHeld 59 = false := by kernel_rfl
theorem field_guard : Try.prog.eqGuardType Try.prog.depth 59 = false := by kernel_rfl
theorem field_list : (Try.prog.fieldsOf 59).toList.map (fun f => (f.name, f.type, f.offset)) = [("Flags", 3, 0), ("Name", 3, 1), ("Desc", 3, 2)] := by kernel_rfl
theorem field_equal (w : World) (d : Nat) (x0 x1 x2 : Int) : (Op.equalIn (d + 1 + 1) 59 (.agg #[.int .i64 x0, .int .i64 x1, .int .i64 x2]) (.agg #[.int .i64 x0, .int .i64 x1, .int .i64 x2])).run Try.prog w = .ok true w := by
  rw [run_equalIn_struct w (d + 1) _ _ _ field_fields field_held]
  have hl := field_list
  match hf : (Try.prog.fieldsOf 59).toList, hl with
  | [f0, f1, f2], hl =>
    simp only [List.map_cons, List.map_nil, List.cons.injEq, Prod.mk.injEq, and_true] at hl
    obtain ⟨⟨n0, t0, o0⟩, ⟨n1, t1, o1⟩, ⟨n2, t2, o2⟩⟩ := hl
    simp only [Op.eqFields, n0, n1, n2, t0, t1, t2, o0, o1, o2]
    have i0 : ∀ (i : Nat) (cs : Array Value) (w : World) (h : i < cs.size), (part 3 cs i).run Try.prog w = .ok cs[i] w := fun i cs w h => part_plainS Try.underlying3 rfl w cs i _ (Array.getElem?_eq_getElem h)
    simp [i0, run_equalIn_int _ _ _ _ _ _ _ Try.underlying3]
  | [], hl | [_], hl | [_, _], hl | _ :: _ :: _ :: _ :: _, hl => simp at hl
theorem field_neq (w : World) (x0 x1 x2 : Int) (y1 y2 : Operand) : ((eqGuard .neq 59 y1 y2 (.agg #[.int .i64 x0, .int .i64 x1, .int .i64 x2]) (.agg #[.int .i64 x0, .int .i64 x1, .int .i64 x2])).run Try.prog w).andThen (fun _ w' => (binOp .neq 59 (.agg #[.int .i64 x0, .int .i64 x1, .int .i64 x2]) (.agg #[.int .i64 x0, .int .i64 x1, .int .i64 x2])).run Try.prog w') = .ok (.bool false) w := by
  have h := field_equal w 9998 x0 x1 x2
  rw [run_eqGuard_agg w _ _ _ _ _ _ field_guard, Result.andThen_ok, run_neq_struct, h, Result.andThen_ok]
  rfl
set_option maxRecDepth 100000 in
set_option maxHeartbeats 8000000 in
theorem sameSlots_yes (w : World) (a : Option Addr) (n cap : Nat) (b : Option Addr) (cb : Nat) (l : List KS) (hs : Ss 2 KS.cells w a n l) (ht : Ss 2 KS.cells w b n l) (hn : n ≤ 1000000000) :
    Calls Try.prog 74 #[.slice a n cap, .slice b n cb] w (BoolRet true w) := by
  have HS := Lib.hid hs
  have HT := Lib.hid ht
  clear hs ht
  go_enter Try.func74, Try.ntmps74
  have e1 : ((n : Int) != (n : Int)) = false := by simp
  go_wp2_with fail
  go_loopg [13] n (fun gn i wr => ∃ j : Nat, j ≤ n ∧ gn = n - j ∧ i = .int .i64 j ∧ Hid (Below w.heap.size w wr))
  case atStart => exact ⟨0, by omega, by omega, by go_num, Lib.hid (Below.refl _ _)⟩
  case round =>
    obtain ⟨j, hj, rfl, rfl, HB⟩ := hrel
    by_cases hlt : j < n
    · obtain ⟨b1, off1, x, rfl, _, hv, p⟩ := Ss.getC (HS.out.below HB.out) j hlt
      obtain ⟨b2, off2, y, rfl, _, hv2, q⟩ := Ss.getC (HT.out.below HB.out) j hlt
      obtain rfl : x = y := by rw [hv] at hv2; exact Option.some.inj hv2
      obtain ⟨tg, sa⟩ := x
      have p0 : wr.cell? ⟨b1, off1 + j * 2, none⟩ = some (.int .i64 tg) := p 0 (by omega)
      have p1 : wr.cell? ⟨b1, off1 + j * 2 + 1, none⟩ = some (.int .i64 sa) := p 1 (by omega)
      have q0 : wr.cell? ⟨b2, off2 + j * 2, none⟩ = some (.int .i64 tg) := q 0 (by omega)
      have q1 : wr.cell? ⟨b2, off2 + j * 2 + 1, none⟩ = some (.int .i64 sa) := q 1 (by omega)
      clear p q hv hv2
      have hj1 : (j : Int) < n := by omega
      go_upto_region 6 with fail
      have hSw : EqW wr.drew wr.drew := rfl
      have l0 := fun u (h : EqW wr.drew u) => eqw_cell h p0
      have l1 := fun u (h : EqW wr.drew u) => eqw_cell h p1
      have m0 := fun u (h : EqW wr.drew u) => eqw_cell h q0
      have m1 := fun u (h : EqW wr.drew u) => eqw_cell h q1
      have HNE := Lib.hid (fun u o1 o2 => slot_neq u tg sa o1 o2)
      clear p0 p1 q0 q1
      refine wp_region_lexS (EqW wr.drew) (.stir [(0, true), (1, true), (2, true), (3, true), (4, true), (5, true), (6, true), (7, true), (8, true)]) (by kernel_rfl) (by kernel_rfl) (fun c a d v w h => by cases d <;> exact h) ?_
      refine lexS_stir (EqW wr.drew) (fun y hy => hy) rfl ?_
      iterate 8
        refine stir_step (fun K hK => ?_)
        simp only [stirOp, List.getElem?_toArray, List.getElem?_cons_succ, List.getElem?_cons_zero]
        rw [if_pos (by rfl)]
        apply Exists.intro
        refine ⟨fun w' hS' => ?_, ?_⟩
        · first | (go_simp <;> with_reducible rfl) | (go_simp; go_bits; with_reducible rfl)
        go_simp
        try go_bits
        refine hK _ ?_
        clear hK K
      refine stir_step (fun K hK => ?_)
      simp only [stirOp, List.getElem?_toArray, List.getElem?_cons_succ, List.getElem?_cons_zero]
      rw [if_pos (by rfl)]
      refine ⟨Value.bool false, fun w' hS' => ?_, ?_⟩
      · exact run_exec_binS (by rfl) (HNE.out w' _ _)
      go_simp
      refine hK _ ?_
      clear hK K
      refine stir_nil (fun u hu => ?_)
      obtain rfl : u = wr.drew := hu
      clear l0 l1 m0 m1 HNE hSw
      go_wp2_with fail
      go_roundg (n - (j + 1))
      case measure => omega
      case rel => exact ⟨j + 1, by omega, rfl, by go_num, Lib.hid HB.out.drew⟩
    · obtain rfl : n = j := by omega
      go_wp2_with fail
      go_ret
      exact ⟨rfl, HB.out⟩
set_option maxRecDepth 100000 in
set_option maxHeartbeats 32000000 in
theorem sameMeth_yes (w : World) (m m2 : KM) (h : m.Rd w) (h2 : m2.Rd w) (hp : m.p = m2.p) (hb1 : m.cn ≤ 1000000000) (hb2 : m.tn ≤ 1000000000) (hb3 : m.mn ≤ 1000000000) (hb4 : ∀ p ∈ m.maps, p.ln ≤ 1000000000 ∧ p.sn ≤ 1000000000) :
    Calls Try.prog 48 #[.agg #[.int .i64 m.fl, .int .i64 m.nm, .int .i64 m.ds, .int .i64 m.st, .int .i64 m.lo, .slice m.ca m.cn m.cc, .slice m.ta m.tn m.tc, .slice m.ma m.mn m.mc], .agg #[.int .i64 m2.fl, .int .i64 m2.nm, .int .i64 m2.ds, .int .i64 m2.st, .int .i64 m2.lo, .slice m2.ca m2.cn m2.cc, .slice m2.ta m2.tn m2.tc, .slice m2.ma m2.mn m2.mc]] w (BoolRet true w) := by
  have HX := Lib.hid h
  have HY := Lib.hid h2
  have HB4 := Lib.hid hb4
  have l1 := h.code.1
  have l2 := h.traps.1
  have l3 := h.maps.1
  have r1 := h2.code.1
  have r2 := h2.traps.1
  have r3 := h2.maps.1
  clear h h2 hb4
  obtain ⟨fl, nm, ds, st, lo, ca, cn, cc, code, ta, tn, tc, traps, na, nn, nc, maps⟩ := m
  obtain ⟨fl2, nm2, ds2, st2, lo2, ca2, cn2, cc2, code2, ta2, tn2, tc2, traps2, na2, nn2, nc2, maps2⟩ := m2
  simp only [KM.p, KM.mk.injEq] at hp
  obtain ⟨rfl, rfl, rfl, rfl, rfl, -, -, -, rfl, -, -, -, rfl, -, -, -, hpm⟩ := hp
  dsimp only at *
  have l4 := congrArg List.length hpm
  rw [List.length_map, List.length_map] at l4
  obtain rfl : cn = cn2 := by omega
  obtain rfl : tn = tn2 := by omega
  obtain rfl : nn = nn2 := by omega
  have HPM := Lib.hid hpm
  clear l1 l2 l3 r1 r2 r3 l4 hpm
  have hal1 : Below w.heap.size w (w.alloc (.cells #[.int .i64 fl, .int .i64 nm, .int .i64 ds, .int .i64 st, .int .i64 lo, .slice ca cn cc, .slice ta tn tc, .slice na nn nc] 48)) := below_1 _ _
  have hal2 := below_1 (w.alloc (.cells #[.int .i64 fl, .int .i64 nm, .int .i64 ds, .int .i64 st, .int .i64 lo, .slice ca cn cc, .slice ta tn tc, .slice na nn nc] 48)) (.cells #[.int .i64 fl, .int .i64 nm, .int .i64 ds, .int .i64 st, .int .i64 lo, .slice ca2 cn cc2, .slice ta2 tn tc2, .slice na2 nn nc2] 48)
  have HT1 := Lib.hid (row_below (heap_alloc_last w (.cells #[.int .i64 fl, .int .i64 nm, .int .i64 ds, .int .i64 st, .int .i64 lo, .slice ca cn cc, .slice ta tn tc, .slice na nn nc] 48)) hal2)
  have HT2 := heap_alloc_last (w.alloc (.cells #[.int .i64 fl, .int .i64 nm, .int .i64 ds, .int .i64 st, .int .i64 lo, .slice ca cn cc, .slice ta tn tc, .slice na nn nc] 48)) (.cells #[.int .i64 fl, .int .i64 nm, .int .i64 ds, .int .i64 st, .int .i64 lo, .slice ca2 cn cc2, .slice ta2 tn tc2, .slice na2 nn nc2] 48)
  rw [show (w.alloc (.cells #[.int .i64 fl, .int .i64 nm, .int .i64 ds, .int .i64 st, .int .i64 lo, .slice ca cn cc, .slice ta tn tc, .slice na nn nc] 48)).heap.size = w.heap.size + 1 by simp] at HT2
  replace HT2 := Lib.hid HT2
  have HB0 := Lib.hid (hal1.trans (hal2.mono hal1.size))
  clear hal1 hal2
  go_enter Try.func48, Try.ntmps48
  go_upto_region 1 with fail
  generalize (w.alloc (.cells #[.int .i64 fl, .int .i64 nm, .int .i64 ds, .int .i64 st, .int .i64 lo, .slice ca cn cc, .slice ta tn tc, .slice na nn nc] 48)).alloc (.cells #[.int .i64 fl, .int .i64 nm, .int .i64 ds, .int .i64 st, .int .i64 lo, .slice ca2 cn cc2, .slice ta2 tn tc2, .slice na2 nn nc2] 48) = W0 at *
  obtain ⟨u1, hu1⟩ : ∃ b, b = w.heap.size := ⟨_, rfl⟩
  obtain ⟨u2, hu2⟩ : ∃ b, b = w.heap.size + 1 := ⟨_, rfl⟩
  rw [← hu1] at HT1
  rw [← hu2] at HT2
  rw [← hu2, ← hu1]
  clear hu1 hu2
  have k0 := row_cell HT1.out 0 rfl
  have k1 := row_cell HT1.out 1 rfl
  have k2 := row_cell HT1.out 2 rfl
  have k3 := row_cell HT1.out 3 rfl
  have k4 := row_cell HT1.out 4 rfl
  have k5 := row_cell HT1.out 5 rfl
  have k6 := row_cell HT1.out 6 rfl
  have k7 := row_cell HT1.out 7 rfl
  have j0 := row_cell HT2.out 0 rfl
  have j1 := row_cell HT2.out 1 rfl
  have j2 := row_cell HT2.out 2 rfl
  have j3 := row_cell HT2.out 3 rfl
  have j4 := row_cell HT2.out 4 rfl
  have j5 := row_cell HT2.out 5 rfl
  have j6 := row_cell HT2.out 6 rfl
  have j7 := row_cell HT2.out 7 rfl
  dsimp at k0 k1 k2 k3 k4 k5 k6 k7 j0 j1 j2 j3 j4 j5 j6 j7
  have e0 : (fl != fl) = false := by simp
  have e1 : (nm != nm) = false := by simp
  have e2 : (ds != ds) = false := by simp
  have e3 : (st != st) = false := by simp
  have e4 : (lo != lo) = false := by simp
  have e5 : (code != code) = false := by simp
  have e6 : ((tn : Int) != (tn : Int)) = false := by simp
  have e7 : ((nn : Int) != (nn : Int)) = false := by simp
  have cv1 := run_conv (HX.out.code.below HB0.out) cc
  have cv2 := run_conv (HY.out.code.below HB0.out) cc2
  go_cut [66] (fun r wx => r = .bool false ∧ wx = W0)
  case first =>
    go_wp2_with fail
    go_meet
    exact ⟨by simp, rfl⟩
  case rest =>
    obtain ⟨rfl, rfl⟩ := hcut
    clear e0 e1 e2 e3 e4 e5 e6 e7 cv1 cv2 k0 k1 k2 k3 k4 k5 j0 j1 j2 j3 j4 j5 k7 j7 j6
    go_wp2_with fail
    clear k6
    go_loopg [70] tn (fun gn i wr => ∃ j : Nat, j ≤ tn ∧ gn = tn - j ∧ i = .int .i64 j ∧ Hid (Below wc.heap.size wc wr))
    case atStart => exact ⟨0, by omega, by omega, by go_num, Lib.hid (Below.refl _ _)⟩
    case round =>
      obtain ⟨j, hj, rfl, rfl, HB⟩ := hrel
      have HWB := Lib.hid (HB0.out.trans (HB.out.mono HB0.out.size))
      by_cases hlt : j < tn
      · obtain ⟨b1, off1, x, rfl, _, hv, p⟩ := Ss.getC (HX.out.traps.below HWB.out) j hlt
        obtain ⟨b2, off2, y, rfl, _, hv2, q⟩ := Ss.getC (HY.out.traps.below HWB.out) j hlt
        obtain rfl : x = y := by rw [hv] at hv2; exact Option.some.inj hv2
        obtain ⟨fr, tt, pl, cl⟩ := x
        have p0 : wr.cell? ⟨b1, off1 + j * 4, none⟩ = some (.int .i64 fr) := p 0 (by omega)
        have p1 : wr.cell? ⟨b1, off1 + j * 4 + 1, none⟩ = some (.int .i64 tt) := p 1 (by omega)
        have p2 : wr.cell? ⟨b1, off1 + j * 4 + 2, none⟩ = some (.int .i64 pl) := p 2 (by omega)
        have p3 : wr.cell? ⟨b1, off1 + j * 4 + 3, none⟩ = some (.int .i64 cl) := p 3 (by omega)
        have q0 : wr.cell? ⟨b2, off2 + j * 4, none⟩ = some (.int .i64 fr) := q 0 (by omega)
        have q1 : wr.cell? ⟨b2, off2 + j * 4 + 1, none⟩ = some (.int .i64 tt) := q 1 (by omega)
        have q2 : wr.cell? ⟨b2, off2 + j * 4 + 2, none⟩ = some (.int .i64 pl) := q 2 (by omega)
        have q3 : wr.cell? ⟨b2, off2 + j * 4 + 3, none⟩ = some (.int .i64 cl) := q 3 (by omega)
        have k6 := row_cell (row_below HT1.out HB.out) 6 rfl
        have j6 := row_cell (row_below HT2.out HB.out) 6 rfl
        dsimp at k6 j6
        clear p q hv hv2
        have hj1 : (j : Int) < tn := by omega
        go_upto_region 6 with fail
        have hSw : EqW wr.drew wr.drew := rfl
        have l0 := fun u (h : EqW wr.drew u) => eqw_cell h p0
        have l1 := fun u (h : EqW wr.drew u) => eqw_cell h p1
        have l2 := fun u (h : EqW wr.drew u) => eqw_cell h p2
        have l3 := fun u (h : EqW wr.drew u) => eqw_cell h p3
        have m0 := fun u (h : EqW wr.drew u) => eqw_cell h q0
        have m1 := fun u (h : EqW wr.drew u) => eqw_cell h q1
        have m2 := fun u (h : EqW wr.drew u) => eqw_cell h q2
        have m3 := fun u (h : EqW wr.drew u) => eqw_cell h q3
        have n0 := fun u (h : EqW wr.drew u) => eqw_cell h k6
        have n1 := fun u (h : EqW wr.drew u) => eqw_cell h j6
        have HNE := Lib.hid (fun u o1 o2 => trap_neq u fr tt pl cl o1 o2)
        clear p0 p1 p2 p3 q0 q1 q2 q3 k6 j6
        refine wp_region_lexS (EqW wr.drew) (.stir [(0, true), (1, true), (2, true), (3, true), (4, true), (5, true), (6, true), (7, true), (8, true), (9, true), (10, true)]) (by kernel_rfl) (by kernel_rfl) (fun c a d v w h => by cases d <;> exact h) ?_
        refine lexS_stir (EqW wr.drew) (fun y hy => hy) rfl ?_
        iterate 10
          refine stir_step (fun K hK => ?_)
          simp only [stirOp, List.getElem?_toArray, List.getElem?_cons_succ, List.getElem?_cons_zero]
          rw [if_pos (by rfl)]
          apply Exists.intro
          refine ⟨fun w' hS' => ?_, ?_⟩
          · first | (go_simp <;> with_reducible rfl) | (go_simp; go_bits; with_reducible rfl)
          go_simp
          try go_bits
          refine hK _ ?_
          clear hK K
        refine stir_step (fun K hK => ?_)
        simp only [stirOp, List.getElem?_toArray, List.getElem?_cons_succ, List.getElem?_cons_zero]
        rw [if_pos (by rfl)]
        refine ⟨Value.bool false, fun w' hS' => ?_, ?_⟩
        · exact run_exec_binS (by rfl) (HNE.out w' _ _)
        go_simp
        refine hK _ ?_
        clear hK K
        refine stir_nil (fun u hu => ?_)
        obtain rfl : u = wr.drew := hu
        clear l0 l1 l2 l3 m0 m1 m2 m3 n0 n1 HNE hSw
        go_wp2_with fail
        go_roundg (tn - (j + 1))
        case measure => omega
        case rel => exact ⟨j + 1, by omega, rfl, by go_num, Lib.hid HB.out.drew⟩
      · obtain rfl : tn = j := by omega
        have HT1' := Lib.hid (row_below HT1.out HB.out)
        have HT2' := Lib.hid (row_below HT2.out HB.out)
        clear HB HB0 HT1 HT2
        have k7 := row_cell HT1'.out 7 rfl
        dsimp at k7
        go_wp2_with fail
        clear k7
        go_loopg [88] nn (fun gn i wx => ∃ j : Nat, j ≤ nn ∧ gn = nn - j ∧ i = .int .i64 j ∧ Hid (Below wr.heap.size wr wx))
        case atStart => exact ⟨0, by omega, by omega, by go_num, Lib.hid (Below.refl _ _)⟩
        case round =>
          rename_i wq
          obtain ⟨j, hj, rfl, rfl, HB⟩ := hrel
          have HWC := Lib.hid (HWB.out.trans (HB.out.mono HWB.out.size))
          by_cases hlt : j < nn
          · obtain ⟨b1, off1, x, rfl, _, hv, p⟩ := Ss.getC (HX.out.maps.below HWC.out) j hlt
            obtain ⟨b2, off2, y, rfl, _, hv2, q⟩ := Ss.getC (HY.out.maps.below HWC.out) j hlt
            have hpp := map_at HPM.out hv hv2
            have hxr := HX.out.each x (List.mem_of_getElem? hv)
            have hyr := HY.out.each y (List.mem_of_getElem? hv2)
            have hx4 := HB4.out x (List.mem_of_getElem? hv)
            have s1 := hxr.loc.1
            have s2 := hxr.stk.1
            have s3 := hyr.loc.1
            have s4 := hyr.stk.1
            obtain ⟨pl, la, ln, lc, loc, sa, sn, sc, stk⟩ := x
            obtain ⟨pl2, la2, ln2, lc2, loc2, sa2, sn2, sc2, stk2⟩ := y
            simp only [KP.p, KP.mk.injEq] at hpp
            obtain ⟨rfl, -, -, -, rfl, -, -, -, rfl⟩ := hpp
            dsimp only at s1 s2 s3 s4 hx4
            obtain rfl : ln = ln2 := by omega
            obtain rfl : sn = sn2 := by omega
            have HC1 := Lib.hid (fun w' (hb : Below w.heap.size w w') => sameSlots_yes w' la ln lc la2 lc2 loc (hxr.loc.below hb) (hyr.loc.below hb) hx4.1)
            have HC2 := Lib.hid (fun w' (hb : Below w.heap.size w w') => sameSlots_yes w' sa sn sc sa2 sc2 stk (hxr.stk.below hb) (hyr.stk.below hb) hx4.2)
            have p0 : wr.cell? ⟨b1, off1 + j * 3, none⟩ = some (.int .i64 pl) := p 0 (by omega)
            have p1 : wr.cell? ⟨b1, off1 + j * 3 + 1, none⟩ = some (.slice la ln lc) := p 1 (by omega)
            have p2 : wr.cell? ⟨b1, off1 + j * 3 + 2, none⟩ = some (.slice sa sn sc) := p 2 (by omega)
            have q0 : wr.cell? ⟨b2, off2 + j * 3, none⟩ = some (.int .i64 pl) := q 0 (by omega)
            have q1 : wr.cell? ⟨b2, off2 + j * 3 + 1, none⟩ = some (.slice la2 ln lc2) := q 1 (by omega)
            have q2 : wr.cell? ⟨b2, off2 + j * 3 + 2, none⟩ = some (.slice sa2 sn sc2) := q 2 (by omega)
            have k7 := row_cell (row_below HT1'.out HB.out) 7 rfl
            have j7 := row_cell (row_below HT2'.out HB.out) 7 rfl
            dsimp at k7 j7
            clear p q hv hv2 s1 s2 s3 s4 hx4 hxr hyr
            have hj1 : (j : Int) < nn := by omega
            have ep : (pl != pl) = false := by simp
            go_upto_region 12 with fail
            have hSw : Below wr.heap.size wr wr.drew := (Below.refl _ _).drew
            have l0 := fun u (h : Below wr.heap.size wr u) => cellS_below h p0
            have l1 := fun u (h : Below wr.heap.size wr u) => cellS_below h p1
            have l2 := fun u (h : Below wr.heap.size wr u) => cellS_below h p2
            have m0 := fun u (h : Below wr.heap.size wr u) => cellS_below h q0
            have m1 := fun u (h : Below wr.heap.size wr u) => cellS_below h q1
            have m2 := fun u (h : Below wr.heap.size wr u) => cellS_below h q2
            have n0 := fun u (h : Below wr.heap.size wr u) => cellS_below h k7
            have n1 := fun u (h : Below wr.heap.size wr u) => cellS_below h j7
            have HD1 := Lib.hid (fun u (h : Below wr.heap.size wr u) => HC1.out u (HWC.out.trans (h.mono HWC.out.size)))
            have HD2 := Lib.hid (fun u (h : Below wr.heap.size wr u) => HC2.out u (HWC.out.trans (h.mono HWC.out.size)))
            clear p0 p1 p2 q0 q1 q2 k7 j7 HC1 HC2
            refine wp_region_lexS (Below wr.heap.size wr) (.stir [(0, true), (1, true), (2, true), (3, true), (4, true), (5, true), (6, true), (7, true), (8, true), (9, true), (10, true), (11, true), (12, true), (13, true), (14, true), (15, true), (16, true), (17, true), (18, true), (19, true), (20, true), (21, true), (22, true), (23, true), (24, true), (25, true), (26, false), (27, true), (28, true), (29, true), (30, true), (31, true), (32, true), (33, true), (34, true), (35, true), (36, true), (37, true), (38, true), (39, true), (40, true), (41, true), (42, false), (43, true), (44, true)]) (by kernel_rfl) (by kernel_rfl) (fun c a d v w h => by cases d <;> exact h) ?_
            refine lexS_stir (Below wr.heap.size wr) (fun y hy => hy) hSw ?_
            iterate 26
              refine stir_step (fun K hK => ?_)
              simp only [stirOp, List.getElem?_toArray, List.getElem?_cons_succ, List.getElem?_cons_zero]
              rw [if_pos (by rfl)]
              apply Exists.intro
              refine ⟨fun w' hS' => ?_, ?_⟩
              · first | (go_simp <;> with_reducible rfl) | (go_simp; go_bits; with_reducible rfl)
              go_simp
              try go_bits
              refine hK _ ?_
              clear hK K
            refine stir_step (fun K hK => ?_)
            simp only [stirOp, List.getElem?_toArray, List.getElem?_cons_succ, List.getElem?_cons_zero]
            rw [if_pos (by rfl)]
            apply Exists.intro
            refine ⟨fun w' hS' => ?_, ?_⟩
            · go_simp
              exact Stirs.call (Calls.mono ((HD1.out w' hS')) fun e w'' h => ⟨h.1, (fun hb'' => hS'.trans (hb''.mono hS'.size)) h.2⟩)
            go_simp
            refine hK _ ?_
            clear hK K
            iterate 15
              refine stir_step (fun K hK => ?_)
              simp only [stirOp, List.getElem?_toArray, List.getElem?_cons_succ, List.getElem?_cons_zero]
              rw [if_pos (by rfl)]
              apply Exists.intro
              refine ⟨fun w' hS' => ?_, ?_⟩
              · first | (go_simp <;> with_reducible rfl) | (go_simp; go_bits; with_reducible rfl)
              go_simp
              try go_bits
              refine hK _ ?_
              clear hK K
            refine stir_step (fun K hK => ?_)
            simp only [stirOp, List.getElem?_toArray, List.getElem?_cons_succ, List.getElem?_cons_zero]
            rw [if_pos (by rfl)]
            apply Exists.intro
            refine ⟨fun w' hS' => ?_, ?_⟩
            · go_simp
              exact Stirs.call (Calls.mono ((HD2.out w' hS')) fun e w'' h => ⟨h.1, (fun hb'' => hS'.trans (hb''.mono hS'.size)) h.2⟩)
            go_simp
            refine hK _ ?_
            clear hK K
            iterate 2
              refine stir_step (fun K hK => ?_)
              simp only [stirOp, List.getElem?_toArray, List.getElem?_cons_succ, List.getElem?_cons_zero]
              rw [if_pos (by rfl)]
              apply Exists.intro
              refine ⟨fun w' hS' => ?_, ?_⟩
              · first | (go_simp <;> with_reducible rfl) | (go_simp; go_bits; with_reducible rfl)
              go_simp
              try go_bits
              refine hK _ ?_
              clear hK K
            refine stir_nil (fun u hu => ?_)
            clear l0 l1 l2 m0 m1 m2 n0 n1 HD1 HD2 hSw
            go_wp2_with fail
            go_roundg (nn - (j + 1))
            case measure => omega
            case rel => exact ⟨j + 1, by omega, rfl, by go_num, Lib.hid (HB.out.trans (hu.mono HB.out.size))⟩
          · obtain rfl : nn = j := by omega
            go_wp2_with fail
            go_ret
            exact ⟨rfl, HWC.out⟩
end Go.Proofs.Ytnfhiakdbakpgaa
/- klass: of two classes that are the same the document's Same tells so, whole (printed by gen/klsame2.py). No condition. -/
namespace Go.Proofs.Ytnfhiakdbakpgaa
open Go.ChangeShapes Go.WideShapes Go.ChangeAt Go.RowKit
/-- Sizes of a class that is not great. -/
structure KF.Sml (f : KF) : Prop where
  pn : f.pn ≤ 65536
  fn : f.fn ≤ 1000000000
  mn : f.mn ≤ 1000000000
  each : ∀ m ∈ f.methods, m.cn ≤ 1000000000 ∧ m.tn ≤ 1000000000 ∧ m.mn ≤ 1000000000 ∧ ∀ p ∈ m.maps, p.ln ≤ 1000000000 ∧ p.sn ≤ 1000000000
set_option maxRecDepth 100000 in
set_option maxHeartbeats 32000000 in
theorem Same_yes (w : World) (x y : KF) (hx : x.Rd w) (hy : y.Rd w) (hp : x.p = y.p) (hb : x.Sml) :
    Calls Try.prog 14 #[.agg x.vals, .agg y.vals] w (BoolRet true w) := by
  have HX := Lib.hid hx
  have HY := Lib.hid hy
  have hpn := hb.pn
  have hfn := hb.fn
  have hmn := hb.mn
  have HBE := Lib.hid hb.each
  have l1 := hx.pool.1
  have l2 := hx.fields.1
  have l3 := hx.methods.1
  have r1 := hy.pool.1
  have r2 := hy.fields.1
  have r3 := hy.methods.1
  clear hx hy hb
  obtain ⟨pa, pn, pc, pool, th, su, fa, fn, fc, fields, ma, mn, mc, methods⟩ := x
  obtain ⟨pa2, pn2, pc2, pool2, th2, su2, fa2, fn2, fc2, fields2, ma2, mn2, mc2, methods2⟩ := y
  simp only [KF.p, KF.mk.injEq] at hp
  obtain ⟨-, -, -, rfl, rfl, rfl, -, -, -, rfl, -, -, -, hpm⟩ := hp
  dsimp only at *
  have l4 := congrArg List.length hpm
  rw [List.length_map, List.length_map] at l4
  obtain rfl : pn = pn2 := by omega
  obtain rfl : fn = fn2 := by omega
  obtain rfl : mn = mn2 := by omega
  have HPM := Lib.hid hpm
  unfold KF.vals
  dsimp only
  clear l1 l2 l3 r1 r2 r3 l4 hpm
  have hal1 : Below w.heap.size w (w.alloc (.cells #[.slice pa pn pc, .int .i64 th, .int .i64 su, .slice fa fn fc, .slice ma mn mc] 26)) := below_1 _ _
  have hal2 := below_1 (w.alloc (.cells #[.slice pa pn pc, .int .i64 th, .int .i64 su, .slice fa fn fc, .slice ma mn mc] 26)) (.cells #[.slice pa2 pn pc2, .int .i64 th, .int .i64 su, .slice fa2 fn fc2, .slice ma2 mn mc2] 26)
  have HT1 := Lib.hid (row_below (heap_alloc_last w (.cells #[.slice pa pn pc, .int .i64 th, .int .i64 su, .slice fa fn fc, .slice ma mn mc] 26)) hal2)
  have HT2 := heap_alloc_last (w.alloc (.cells #[.slice pa pn pc, .int .i64 th, .int .i64 su, .slice fa fn fc, .slice ma mn mc] 26)) (.cells #[.slice pa2 pn pc2, .int .i64 th, .int .i64 su, .slice fa2 fn fc2, .slice ma2 mn mc2] 26)
  rw [show (w.alloc (.cells #[.slice pa pn pc, .int .i64 th, .int .i64 su, .slice fa fn fc, .slice ma mn mc] 26)).heap.size = w.heap.size + 1 by simp] at HT2
  replace HT2 := Lib.hid HT2
  have HB0 := Lib.hid (hal1.trans (hal2.mono hal1.size))
  clear hal1 hal2
  go_enter Try.func14, Try.ntmps14
  go_upto_region 1 with fail
  generalize (w.alloc (.cells #[.slice pa pn pc, .int .i64 th, .int .i64 su, .slice fa fn fc, .slice ma mn mc] 26)).alloc (.cells #[.slice pa2 pn pc2, .int .i64 th, .int .i64 su, .slice fa2 fn fc2, .slice ma2 mn mc2] 26) = W0 at *
  obtain ⟨u1, hu1⟩ : ∃ b, b = w.heap.size := ⟨_, rfl⟩
  obtain ⟨u2, hu2⟩ : ∃ b, b = w.heap.size + 1 := ⟨_, rfl⟩
  rw [← hu1] at HT1
  rw [← hu2] at HT2
  rw [← hu2, ← hu1]
  clear hu1 hu2
  have HSK := Lib.hid (Same_yesK W0 pa pa2 pn pc pc2 pool (HX.out.pool.below HB0.out) (HY.out.pool.below HB0.out) hpn)
  go_cut [44] (fun r wx => r = .bool false ∧ Hid (Below W0.heap.size W0 wx))
  case first =>
    have k0 := row_cell HT1.out 0 rfl
    have j0 := row_cell HT2.out 0 rfl
    dsimp at k0 j0
    have e1 : (th != th) = false := by simp
    have e2 : (su != su) = false := by simp
    have e3 : ((fn : Int) != (fn : Int)) = false := by simp
    have e4 : ((mn : Int) != (mn : Int)) = false := by simp
    go_wp2_with fail
    refine HSK.out.mono ?_
    rintro e W1 ⟨rfl, hb⟩
    have k1 := row_cell (row_below HT1.out hb) 1 rfl
    have j1 := row_cell (row_below HT2.out hb) 1 rfl
    have k2 := row_cell (row_below HT1.out hb) 2 rfl
    have j2 := row_cell (row_below HT2.out hb) 2 rfl
    have k3 := row_cell (row_below HT1.out hb) 3 rfl
    have j3 := row_cell (row_below HT2.out hb) 3 rfl
    have k4 := row_cell (row_below HT1.out hb) 4 rfl
    have j4 := row_cell (row_below HT2.out hb) 4 rfl
    dsimp at k1 j1 k2 j2 k3 j3 k4 j4
    go_wp2_with fail
    go_meet
    exact ⟨by simp, Lib.hid hb⟩
  case rest =>
    obtain ⟨rfl, HBC⟩ := hcut
    have HB1 := Lib.hid (HB0.out.trans (HBC.out.mono HB0.out.size))
    have HR1 := Lib.hid (row_below HT1.out HBC.out)
    have HR2 := Lib.hid (row_below HT2.out HBC.out)
    clear HSK HBC HB0 HT1 HT2
    have k3 := row_cell HR1.out 3 rfl
    dsimp at k3
    go_wp2_with fail
    clear k3
    go_loopg [48] fn (fun gn i wr => ∃ j : Nat, j ≤ fn ∧ gn = fn - j ∧ i = .int .i64 j ∧ Hid (Below w.heap.size w wr) ∧ Hid (wr.heap[u1]? = some (.cells #[.slice pa pn pc, .int .i64 th, .int .i64 su, .slice fa fn fc, .slice ma mn mc] 26)) ∧ Hid (wr.heap[u2]? = some (.cells #[.slice pa2 pn pc2, .int .i64 th, .int .i64 su, .slice fa2 fn fc2, .slice ma2 mn mc2] 26)))
    case atStart => exact ⟨0, by omega, by omega, by go_num, HB1, HR1, HR2⟩
    case round =>
      clear HB1 HR1 HR2
      obtain ⟨j, hj, rfl, rfl, HB, HR1, HR2⟩ := hrel
      by_cases hlt : j < fn
      · obtain ⟨b1, off1, x, rfl, _, hv, p⟩ := Ss.getC (HX.out.fields.below HB.out) j hlt
        obtain ⟨b2, off2, y, rfl, _, hv2, q⟩ := Ss.getC (HY.out.fields.below HB.out) j hlt
        obtain rfl : x = y := by rw [hv] at hv2; exact Option.some.inj hv2
        obtain ⟨fl, nm, ds⟩ := x
        have p0 : wr.cell? ⟨b1, off1 + j * 3, none⟩ = some (.int .i64 fl) := p 0 (by omega)
        have p1 : wr.cell? ⟨b1, off1 + j * 3 + 1, none⟩ = some (.int .i64 nm) := p 1 (by omega)
        have p2 : wr.cell? ⟨b1, off1 + j * 3 + 2, none⟩ = some (.int .i64 ds) := p 2 (by omega)
        have q0 : wr.cell? ⟨b2, off2 + j * 3, none⟩ = some (.int .i64 fl) := q 0 (by omega)
        have q1 : wr.cell? ⟨b2, off2 + j * 3 + 1, none⟩ = some (.int .i64 nm) := q 1 (by omega)
        have q2 : wr.cell? ⟨b2, off2 + j * 3 + 2, none⟩ = some (.int .i64 ds) := q 2 (by omega)
        have k3 := row_cell HR1.out 3 rfl
        have j3 := row_cell HR2.out 3 rfl
        dsimp at k3 j3
        clear p q hv hv2
        have hj1 : (j : Int) < fn := by omega
        go_upto_region 6 with fail
        have hSw : EqW wr.drew wr.drew := rfl
        have l0 := fun u (h : EqW wr.drew u) => eqw_cell h p0
        have l1 := fun u (h : EqW wr.drew u) => eqw_cell h p1
        have l2 := fun u (h : EqW wr.drew u) => eqw_cell h p2
        have m0 := fun u (h : EqW wr.drew u) => eqw_cell h q0
        have m1 := fun u (h : EqW wr.drew u) => eqw_cell h q1
        have m2 := fun u (h : EqW wr.drew u) => eqw_cell h q2
        have n0 := fun u (h : EqW wr.drew u) => eqw_cell h k3
        have n1 := fun u (h : EqW wr.drew u) => eqw_cell h j3
        have HNE := Lib.hid (fun u o1 o2 => field_neq u fl nm ds o1 o2)
        clear p0 p1 p2 q0 q1 q2 k3 j3
        refine wp_region_lexS (EqW wr.drew) (.stir [(0, true), (1, true), (2, true), (3, true), (4, true), (5, true), (6, true), (7, true), (8, true), (9, true), (10, true)]) (by kernel_rfl) (by kernel_rfl) (fun c a d v w h => by cases d <;> exact h) ?_
        refine lexS_stir (EqW wr.drew) (fun y hy => hy) rfl ?_
        iterate 10
          refine stir_step (fun K hK => ?_)
          simp only [stirOp, List.getElem?_toArray, List.getElem?_cons_succ, List.getElem?_cons_zero]
          rw [if_pos (by rfl)]
          apply Exists.intro
          refine ⟨fun w' hS' => ?_, ?_⟩
          · first | (go_simp <;> with_reducible rfl) | (go_simp; go_bits; with_reducible rfl)
          go_simp
          try go_bits
          refine hK _ ?_
          clear hK K
        refine stir_step (fun K hK => ?_)
        simp only [stirOp, List.getElem?_toArray, List.getElem?_cons_succ, List.getElem?_cons_zero]
        rw [if_pos (by rfl)]
        refine ⟨Value.bool false, fun w' hS' => ?_, ?_⟩
        · exact run_exec_binS (by rfl) (HNE.out w' _ _)
        go_simp
        refine hK _ ?_
        clear hK K
        refine stir_nil (fun u hu => ?_)
        obtain rfl : u = wr.drew := hu
        clear l0 l1 l2 m0 m1 m2 n0 n1 HNE hSw
        go_wp2_with fail
        go_roundg (fn - (j + 1))
        case measure => omega
        case rel => exact ⟨j + 1, by omega, rfl, by go_num, Lib.hid HB.out.drew, Lib.hid (row_below HR1.out (Below.refl _ _).drew), Lib.hid (row_below HR2.out (Below.refl _ _).drew)⟩
      · obtain rfl : fn = j := by omega
        have k4 := row_cell HR1.out 4 rfl
        dsimp at k4
        go_wp2_with fail
        clear k4
        go_loopg [66] mn (fun gn i wr => ∃ j : Nat, j ≤ mn ∧ gn = mn - j ∧ i = .int .i64 j ∧ Hid (Below w.heap.size w wr) ∧ Hid (wr.heap[u1]? = some (.cells #[.slice pa pn pc, .int .i64 th, .int .i64 su, .slice fa fn fc, .slice ma mn mc] 26)) ∧ Hid (wr.heap[u2]? = some (.cells #[.slice pa2 pn pc2, .int .i64 th, .int .i64 su, .slice fa2 fn fc2, .slice ma2 mn mc2] 26)))
        case atStart => exact ⟨0, by omega, by omega, by go_num, HB, HR1, HR2⟩
        case round =>
          clear HB HR1 HR2
          obtain ⟨j, hj, rfl, rfl, HB, HR1, HR2⟩ := hrel
          by_cases hlt : j < mn
          · obtain ⟨b1, off1, x, rfl, _, hv, p⟩ := Ss.getC (HX.out.methods.below HB.out) j hlt
            obtain ⟨b2, off2, y, rfl, _, hv2, q⟩ := Ss.getC (HY.out.methods.below HB.out) j hlt
            have hpp := map_at HPM.out hv hv2
            have hxr := HX.out.each x (List.mem_of_getElem? hv)
            have hyr := HY.out.each y (List.mem_of_getElem? hv2)
            have hx4 := HBE.out x (List.mem_of_getElem? hv)
            have HCM := Lib.hid (fun w' (h : Below w.heap.size w w') => sameMeth_yes w' x y (hxr.below h) (hyr.below h) hpp hx4.1 hx4.2.1 hx4.2.2.1 hx4.2.2.2)
            clear hpp hxr hyr hx4
            obtain ⟨fl, nm, ds, st, lo, ca, cn, cc, code, ta, tn, tc, traps, na, nn, nc, maps⟩ := x
            obtain ⟨fl2, nm2, ds2, st2, lo2, ca2, cn2, cc2, code2, ta2, tn2, tc2, traps2, na2, nn2, nc2, maps2⟩ := y
            dsimp only at HCM
            have p0 : wr.cell? ⟨b1, off1 + j * 8, none⟩ = some (.int .i64 fl) := p 0 (by omega)
            have p1 : wr.cell? ⟨b1, off1 + j * 8 + 1, none⟩ = some (.int .i64 nm) := p 1 (by omega)
            have p2 : wr.cell? ⟨b1, off1 + j * 8 + 2, none⟩ = some (.int .i64 ds) := p 2 (by omega)
            have p3 : wr.cell? ⟨b1, off1 + j * 8 + 3, none⟩ = some (.int .i64 st) := p 3 (by omega)
            have p4 : wr.cell? ⟨b1, off1 + j * 8 + 4, none⟩ = some (.int .i64 lo) := p 4 (by omega)
            have p5 : wr.cell? ⟨b1, off1 + j * 8 + 5, none⟩ = some (.slice ca cn cc) := p 5 (by omega)
            have p6 : wr.cell? ⟨b1, off1 + j * 8 + 6, none⟩ = some (.slice ta tn tc) := p 6 (by omega)
            have p7 : wr.cell? ⟨b1, off1 + j * 8 + 7, none⟩ = some (.slice na nn nc) := p 7 (by omega)
            have q0 : wr.cell? ⟨b2, off2 + j * 8, none⟩ = some (.int .i64 fl2) := q 0 (by omega)
            have q1 : wr.cell? ⟨b2, off2 + j * 8 + 1, none⟩ = some (.int .i64 nm2) := q 1 (by omega)
            have q2 : wr.cell? ⟨b2, off2 + j * 8 + 2, none⟩ = some (.int .i64 ds2) := q 2 (by omega)
            have q3 : wr.cell? ⟨b2, off2 + j * 8 + 3, none⟩ = some (.int .i64 st2) := q 3 (by omega)
            have q4 : wr.cell? ⟨b2, off2 + j * 8 + 4, none⟩ = some (.int .i64 lo2) := q 4 (by omega)
            have q5 : wr.cell? ⟨b2, off2 + j * 8 + 5, none⟩ = some (.slice ca2 cn2 cc2) := q 5 (by omega)
            have q6 : wr.cell? ⟨b2, off2 + j * 8 + 6, none⟩ = some (.slice ta2 tn2 tc2) := q 6 (by omega)
            have q7 : wr.cell? ⟨b2, off2 + j * 8 + 7, none⟩ = some (.slice na2 nn2 nc2) := q 7 (by omega)
            have k4 := row_cell HR1.out 4 rfl
            have j4 := row_cell HR2.out 4 rfl
            dsimp at k4 j4
            clear p q hv hv2
            have hj1 : (j : Int) < mn := by omega
            go_upto_region 12 with fail
            have hSw : Below wr.heap.size wr wr.drew := (Below.refl _ _).drew
            have l0 := fun u (h : Below wr.heap.size wr u) => cellS_below h p0
            have l1 := fun u (h : Below wr.heap.size wr u) => cellS_below h p1
            have l2 := fun u (h : Below wr.heap.size wr u) => cellS_below h p2
            have l3 := fun u (h : Below wr.heap.size wr u) => cellS_below h p3
            have l4 := fun u (h : Below wr.heap.size wr u) => cellS_below h p4
            have l5 := fun u (h : Below wr.heap.size wr u) => cellS_below h p5
            have l6 := fun u (h : Below wr.heap.size wr u) => cellS_below h p6
            have l7 := fun u (h : Below wr.heap.size wr u) => cellS_below h p7
            have m0 := fun u (h : Below wr.heap.size wr u) => cellS_below h q0
            have m1 := fun u (h : Below wr.heap.size wr u) => cellS_below h q1
            have m2 := fun u (h : Below wr.heap.size wr u) => cellS_below h q2
            have m3 := fun u (h : Below wr.heap.size wr u) => cellS_below h q3
            have m4 := fun u (h : Below wr.heap.size wr u) => cellS_below h q4
            have m5 := fun u (h : Below wr.heap.size wr u) => cellS_below h q5
            have m6 := fun u (h : Below wr.heap.size wr u) => cellS_below h q6
            have m7 := fun u (h : Below wr.heap.size wr u) => cellS_below h q7
            have n0 := fun u (h : Below wr.heap.size wr u) => cellS_below h k4
            have n1 := fun u (h : Below wr.heap.size wr u) => cellS_below h j4
            have HD := Lib.hid (fun u (h : Below wr.heap.size wr u) => HCM.out u (HB.out.trans (h.mono HB.out.size)))
            clear k4 j4 HCM p0 q0 p1 q1 p2 q2 p3 q3 p4 q4 p5 q5 p6 q6 p7 q7
            refine wp_region_lexS (Below wr.heap.size wr) (.stir [(0, true), (1, true), (2, true), (3, true), (4, true), (5, true), (6, true), (7, true), (8, true), (9, true), (10, false), (11, true)]) (by kernel_rfl) (by kernel_rfl) (fun c a d v w h => by cases d <;> exact h) ?_
            refine lexS_stir (Below wr.heap.size wr) (fun y hy => hy) hSw ?_
            iterate 10
              refine stir_step (fun K hK => ?_)
              simp only [stirOp, List.getElem?_toArray, List.getElem?_cons_succ, List.getElem?_cons_zero]
              rw [if_pos (by rfl)]
              apply Exists.intro
              refine ⟨fun w' hS' => ?_, ?_⟩
              · first | (go_simp <;> with_reducible rfl) | (go_simp; go_bits; with_reducible rfl)
              go_simp
              try go_bits
              refine hK _ ?_
              clear hK K
            refine stir_step (fun K hK => ?_)
            simp only [stirOp, List.getElem?_toArray, List.getElem?_cons_succ, List.getElem?_cons_zero]
            rw [if_pos (by rfl)]
            apply Exists.intro
            refine ⟨fun w' hS' => ?_, ?_⟩
            · go_simp
              exact Stirs.call (Calls.mono ((HD.out w' hS')) fun e w'' h => ⟨h.1, (fun hb'' => hS'.trans (hb''.mono hS'.size)) h.2⟩)
            go_simp
            refine hK _ ?_
            clear hK K
            iterate 1
              refine stir_step (fun K hK => ?_)
              simp only [stirOp, List.getElem?_toArray, List.getElem?_cons_succ, List.getElem?_cons_zero]
              rw [if_pos (by rfl)]
              apply Exists.intro
              refine ⟨fun w' hS' => ?_, ?_⟩
              · first | (go_simp <;> with_reducible rfl) | (go_simp; go_bits; with_reducible rfl)
              go_simp
              try go_bits
              refine hK _ ?_
              clear hK K
            refine stir_nil (fun u hu => ?_)
            clear HD hSw n0 n1 l0 m0 l1 m1 l2 m2 l3 m3 l4 m4 l5 m5 l6 m6 l7 m7
            have HB2 := Lib.hid (HB.out.trans (hu.mono HB.out.size))
            have HR12 := Lib.hid (row_below HR1.out hu)
            have HR22 := Lib.hid (row_below HR2.out hu)
            go_wp2_with fail
            go_roundg (mn - (j + 1))
            case measure => omega
            case rel => exact ⟨j + 1, by omega, rfl, by go_num, HB2, HR12, HR22⟩
          · obtain rfl : mn = j := by omega
            go_wp2_with fail
            go_ret
            exact ⟨rfl, HB.out⟩
end Go.Proofs.Ytnfhiakdbakpgaa
