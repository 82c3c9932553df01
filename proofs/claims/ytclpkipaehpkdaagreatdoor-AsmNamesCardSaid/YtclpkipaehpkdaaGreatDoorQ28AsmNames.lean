/- asm: own texts, merged (wip/merge2.py). No condition. -/
import Derived.Test.YtclpkipaehpkdaaGreatDoorQ26AsmNames
import Derived.Test.YtclpkipaehpkdaaGreatDoorQ02AsmNames
import Derived.Test.YtclpkipaehpkdaaGreatDoorQ04AsmNames
import Derived.Test.YtclpkipaehpkdaaGreatDoorQ06AsmNames
import Derived.Laws.StructEq
import Derived.Test.YtclpkipaehpkdaaGreatDoorQ27AsmNames
set_option linter.unusedVariables false
set_option linter.unusedSimpArgs false
namespace Go.Proofs.YtclpkipaehpkdaaGreatDoor
open Go.ChangeShapes Go.WideShapes Go.ChangeAt Go.RowKit
def EqW (x y : World) : Prop := y = x
def KP.p (p : KP) : KP := ⟨p.pl, none, 0, 0, p.loc, none, 0, 0, p.stk⟩
def KM.p (m : KM) : KM := ⟨m.fl, m.nm, m.ds, m.st, m.lo, none, 0, 0, m.code, none, 0, 0, m.traps, none, 0, 0, m.maps.map KP.p⟩
def KF.p (f : KF) : KF := ⟨none, 0, 0, f.pool, f.th, f.su, none, 0, 0, f.fields, none, 0, 0, f.methods.map KM.p⟩
end Go.Proofs.YtclpkipaehpkdaaGreatDoor

namespace Go.Proofs.YtclpkipaehpkdaaGreatDoor
open Go.ChangeShapes Go.WideShapes Go.ChangeAt Go.RowKit
def AskB (P : Prop) (w : World) (e : Ending) (w' : World) : Prop := ∃ b : Bool, e = .returned (.bool b) ∧ Below w.heap.size w w' ∧ (b = true → P)
theorem AskB.no {P : Prop} {w w' : World} {e : Ending} (h : e = .returned (.bool false)) (hb : Below w.heap.size w w') : AskB P w e w' := ⟨false, h, hb, fun h => by simp at h⟩
theorem AskB.yes {P : Prop} {w w' : World} {e : Ending} (h : e = .returned (.bool true)) (hb : Below w.heap.size w w') (hp : P) : AskB P w e w' := ⟨true, h, hb, fun _ => hp⟩
end Go.Proofs.YtclpkipaehpkdaaGreatDoor

namespace Go.Proofs.YtclpkipaehpkdaaGreatDoor
open Go.ChangeShapes Go.WideShapes Go.ChangeAt Go.RowKit
theorem FindR.done {w w' : World} {k m : Nat} (h : k = m) (hb : Below w.heap.size w w') : (Ending.returned (.int .i64 (k : Nat)) = .returned (.int .i64 (m : Nat))) ∧ Below w.heap.size w w' := ⟨by rw [h], hb⟩
theorem BoolRet.of {r s : Bool} {w w' : World} (h : s = r) (hb : Below w.heap.size w w') : BoolRet r w (.returned (.bool s)) w' := ⟨by rw [h], hb⟩
end Go.Proofs.YtclpkipaehpkdaaGreatDoor

namespace Go.Proofs.YtclpkipaehpkdaaGreatDoor
open Go.ChangeShapes Go.WideShapes Go.ChangeAt Go.RowKit
attribute [local go_sem ↓] Go.wp_at_zero Go.wp_at_succ

end Go.Proofs.YtclpkipaehpkdaaGreatDoor

namespace Go.Proofs.YtclpkipaehpkdaaGreatDoor
open Go.ChangeShapes Go.WideShapes Go.ChangeAt Go.RowKit
attribute [local go_sem ↓] Go.wp_at_zero Go.wp_at_succ

end Go.Proofs.YtclpkipaehpkdaaGreatDoor

namespace Go.Proofs.YtclpkipaehpkdaaGreatDoor
open Go.ChangeShapes Go.WideShapes Go.ChangeAt Go.RowKit
theorem BoolRet.no {r : Bool} {w w' : World} (h : r = false) (hb : Below w.heap.size w w') : BoolRet r w (.returned (.bool false)) w' := ⟨by rw [h], hb⟩
theorem BoolRet.yes {r : Bool} {w w' : World} (h : r = true) (hb : Below w.heap.size w w') : BoolRet r w (.returned (.bool true)) w' := ⟨by rw [h], hb⟩
theorem BoolRet.is {r x : Bool} {w w' : World} (h : r = x) (hb : Below w.heap.size w w') : BoolRet r w (.returned (.bool x)) w' := ⟨by rw [h], hb⟩
end Go.Proofs.YtclpkipaehpkdaaGreatDoor

namespace Go.Proofs.YtclpkipaehpkdaaGreatDoor
open Go.ChangeShapes Go.WideShapes Go.ChangeAt Go.RowKit
theorem run_exec_binS {P : Program} {ρ : Operand → Value} {o : Oper} {op : BinOp} {t : TypeId} {x y : Operand} {ty : TypeId} (ho : o.op = .binOp op t x y ty) {v : Value} {w : World}
    (h : ((eqGuard op t x y (ρ x) (ρ y)).run P w).andThen (fun _ w' => (binOp op t (ρ x) (ρ y)).run P w') = .ok v w) : (execOp ρ o).run P w = .ok (.value v) w := by
  unfold execOp
  simp only [ho, Sem.run_bind, Sem.run_pure]
  rw [h]
  rfl
theorem part_plainS {e : TypeId} {d : TypeDesc} (h1 : Tryz.prog.underlying e = some d) (h2 : (match d with | .struct _ | .array _ _ => false | _ => true) = true) (w : World) (cs : Array Value) (i : Nat) (v : Value) (h3 : cs[i]? = some v) : (part e cs i).run Tryz.prog w = .ok v w := by
  cases d <;> simp [part, isAgg, run_underlying h1, h3] at h2 ⊢
theorem eqw_cell {W u : World} {a : Addr} {v : Value} (h : EqW W.drew u) (hc : W.cell? a = some v) : u.cell? a = some v := by rw [show u = W.drew from h]; exact hc
theorem map_at {α β : Type} {f : α → β} {l m : List α} (h : l.map f = m.map f) {j : Nat} {x y : α} (hx : l[j]? = some x) (hy : m[j]? = some y) : f x = f y := by
  have e : (l.map f)[j]? = (m.map f)[j]? := by rw [h]
  rw [List.getElem?_map, List.getElem?_map, hx, hy] at e
  simpa using e
end Go.Proofs.YtclpkipaehpkdaaGreatDoor

namespace Go.Proofs.YtclpkipaehpkdaaGreatDoor
open Go.ChangeShapes Go.WideShapes Go.ChangeAt Go.RowKit
theorem ustrap_fields : Tryz.prog.underlying 85 = some (.struct (Tryz.prog.fieldsOf 85)) := by kernel_rfl
theorem ustrap_held : Tryz.prog.stoodInHeld 85 = false := by kernel_rfl
theorem ustrap_guard : Tryz.prog.eqGuardType Tryz.prog.depth 85 = false := by kernel_rfl
theorem ustrap_list : (Tryz.prog.fieldsOf 85).toList.map (fun f => (f.name, f.type, f.offset)) = [("From", 3, 0), ("To", 3, 1), ("At", 3, 2), ("Class", 9, 3)] := by kernel_rfl
theorem ustrap_equal (w : World) (d : Nat) (x0 : Int) (x1 : Int) (x2 : Int) (x3 : List UInt8) : (Op.equalIn (d + 1 + 1) 85 (.agg #[.int .i64 x0, .int .i64 x1, .int .i64 x2, .string ⟨x3.toArray⟩]) (.agg #[.int .i64 x0, .int .i64 x1, .int .i64 x2, .string ⟨x3.toArray⟩])).run Tryz.prog w = .ok true w := by
  rw [run_equalIn_struct w (d + 1) _ _ _ ustrap_fields ustrap_held]
  have hl := ustrap_list
  match hf : (Tryz.prog.fieldsOf 85).toList, hl with
  | [f0, f1, f2, f3], hl =>
    simp only [List.map_cons, List.map_nil, List.cons.injEq, Prod.mk.injEq, and_true] at hl
    obtain ⟨⟨n0, t0, o0⟩, ⟨n1, t1, o1⟩, ⟨n2, t2, o2⟩, ⟨n3, t3, o3⟩⟩ := hl
    simp only [Op.eqFields, n0, n1, n2, n3, t0, t1, t2, t3, o0, o1, o2, o3]
    have i0 : ∀ (i : Nat) (cs : Array Value) (w : World) (h : i < cs.size), (part 3 cs i).run Tryz.prog w = .ok cs[i] w := fun i cs w h => part_plainS Tryz.underlying3 rfl w cs i _ (Array.getElem?_eq_getElem h)
    have i1 : ∀ (i : Nat) (cs : Array Value) (w : World) (h : i < cs.size), (part 9 cs i).run Tryz.prog w = .ok cs[i] w := fun i cs w h => part_plainS Tryz.underlying9 rfl w cs i _ (Array.getElem?_eq_getElem h)
    have i2 : ∀ (i : Nat) (cs : Array Value) (w : World) (h : i < cs.size), (part 4 cs i).run Tryz.prog w = .ok cs[i] w := fun i cs w h => part_plainS Tryz.underlying4 rfl w cs i _ (Array.getElem?_eq_getElem h)
    simp [i0, i1, i2, run_equalIn_int _ _ _ _ _ _ _ Tryz.underlying3, run_equalIn_string _ _ _ _ _ Tryz.underlying9, run_equalIn_bool _ _ _ _ _ Tryz.underlying4]
  | [], hl | [_], hl | [_, _], hl | [_, _, _], hl | _ :: _ :: _ :: _ :: _ :: _, hl => simp at hl
theorem ustrap_neq (w : World) (x0 : Int) (x1 : Int) (x2 : Int) (x3 : List UInt8) (y1 y2 : Operand) : ((eqGuard .neq 85 y1 y2 (.agg #[.int .i64 x0, .int .i64 x1, .int .i64 x2, .string ⟨x3.toArray⟩]) (.agg #[.int .i64 x0, .int .i64 x1, .int .i64 x2, .string ⟨x3.toArray⟩])).run Tryz.prog w).andThen (fun _ w' => (binOp .neq 85 (.agg #[.int .i64 x0, .int .i64 x1, .int .i64 x2, .string ⟨x3.toArray⟩]) (.agg #[.int .i64 x0, .int .i64 x1, .int .i64 x2, .string ⟨x3.toArray⟩])).run Tryz.prog w') = .ok (.bool false) w := by
  have h := ustrap_equal w 9998 x0 x1 x2 x3
  rw [run_eqGuard_agg w _ _ _ _ _ _ ustrap_guard, Result.andThen_ok, run_neq_struct, h, Result.andThen_ok]
  rfl
theorem usfield_fields : Tryz.prog.underlying 52 = some (.struct (Tryz.prog.fieldsOf 52)) := by kernel_rfl
theorem usfield_held : Tryz.prog.stoodInHeld 52 = false := by kernel_rfl
theorem usfield_guard : Tryz.prog.eqGuardType Tryz.prog.depth 52 = false := by kernel_rfl
theorem usfield_list : (Tryz.prog.fieldsOf 52).toList.map (fun f => (f.name, f.type, f.offset)) = [("Static", 4, 0), ("Name", 9, 1), ("Desc", 9, 2)] := by kernel_rfl
theorem usfield_equal (w : World) (d : Nat) (x0 : Bool) (x1 : List UInt8) (x2 : List UInt8) : (Op.equalIn (d + 1 + 1) 52 (.agg #[.bool x0, .string ⟨x1.toArray⟩, .string ⟨x2.toArray⟩]) (.agg #[.bool x0, .string ⟨x1.toArray⟩, .string ⟨x2.toArray⟩])).run Tryz.prog w = .ok true w := by
  rw [run_equalIn_struct w (d + 1) _ _ _ usfield_fields usfield_held]
  have hl := usfield_list
  match hf : (Tryz.prog.fieldsOf 52).toList, hl with
  | [f0, f1, f2], hl =>
    simp only [List.map_cons, List.map_nil, List.cons.injEq, Prod.mk.injEq, and_true] at hl
    obtain ⟨⟨n0, t0, o0⟩, ⟨n1, t1, o1⟩, ⟨n2, t2, o2⟩⟩ := hl
    simp only [Op.eqFields, n0, n1, n2, t0, t1, t2, o0, o1, o2]
    have i0 : ∀ (i : Nat) (cs : Array Value) (w : World) (h : i < cs.size), (part 3 cs i).run Tryz.prog w = .ok cs[i] w := fun i cs w h => part_plainS Tryz.underlying3 rfl w cs i _ (Array.getElem?_eq_getElem h)
    have i1 : ∀ (i : Nat) (cs : Array Value) (w : World) (h : i < cs.size), (part 9 cs i).run Tryz.prog w = .ok cs[i] w := fun i cs w h => part_plainS Tryz.underlying9 rfl w cs i _ (Array.getElem?_eq_getElem h)
    have i2 : ∀ (i : Nat) (cs : Array Value) (w : World) (h : i < cs.size), (part 4 cs i).run Tryz.prog w = .ok cs[i] w := fun i cs w h => part_plainS Tryz.underlying4 rfl w cs i _ (Array.getElem?_eq_getElem h)
    simp [i0, i1, i2, run_equalIn_int _ _ _ _ _ _ _ Tryz.underlying3, run_equalIn_string _ _ _ _ _ Tryz.underlying9, run_equalIn_bool _ _ _ _ _ Tryz.underlying4]
  | [], hl | [_], hl | [_, _], hl | _ :: _ :: _ :: _ :: _, hl => simp at hl
theorem usfield_neq (w : World) (x0 : Bool) (x1 : List UInt8) (x2 : List UInt8) (y1 y2 : Operand) : ((eqGuard .neq 52 y1 y2 (.agg #[.bool x0, .string ⟨x1.toArray⟩, .string ⟨x2.toArray⟩]) (.agg #[.bool x0, .string ⟨x1.toArray⟩, .string ⟨x2.toArray⟩])).run Tryz.prog w).andThen (fun _ w' => (binOp .neq 52 (.agg #[.bool x0, .string ⟨x1.toArray⟩, .string ⟨x2.toArray⟩]) (.agg #[.bool x0, .string ⟨x1.toArray⟩, .string ⟨x2.toArray⟩])).run Tryz.prog w') = .ok (.bool false) w := by
  have h := usfield_equal w 9998 x0 x1 x2
  rw [run_eqGuard_agg w _ _ _ _ _ _ usfield_guard, Result.andThen_ok, run_neq_struct, h, Result.andThen_ok]
  rfl
theorem usins_neq (w : World) (x : IN) (y1 y2 : Operand) : ((eqGuard .neq InsT y1 y2 (.agg x.cells.toArray) (.agg x.cells.toArray)).run Tryz.prog w).andThen (fun _ w' => (binOp .neq InsT (.agg x.cells.toArray) (.agg x.cells.toArray)).run Tryz.prog w') = .ok (.bool false) w := by
  have h := run_equalI w 9998 x x
  rw [show sameI x x = true by simp [sameI]] at h
  unfold IN.cells at *
  rw [run_eqGuard_agg w _ _ _ _ _ _ insF_guard, Result.andThen_ok, run_neq_struct, h, Result.andThen_ok]
  rfl
theorem bytes_neL (x : List UInt8) : ((⟨x.toArray⟩ : ByteArray).toList != (⟨x.toArray⟩ : ByteArray).toList) = false := by simp
set_option maxRecDepth 100000 in
set_option maxHeartbeats 8000000 in
theorem sameTexts_yes (w : World) (a : Option Addr) (n cap : Nat) (b : Option Addr) (cb : Nat) (l : List (List UInt8)) (hs : Sl encS w a n l) (ht : Sl encS w b n l) (hn : n ≤ 1000000000) :
    Calls Tryz.prog 70 #[.slice a n cap, .slice b n cb] w (BoolRet true w) := by
  have HS := Lib.hid hs
  have HT := Lib.hid ht
  clear hs ht
  go_enter Tryz.func70, Tryz.ntmps70
  have e1 : ((n : Int) != (n : Int)) = false := by simp
  go_wp2_with fail
  go_loopg [13] n (fun gn i wr => ∃ j : Nat, j ≤ n ∧ gn = n - j ∧ i = .int .i64 j ∧ Hid (Below w.heap.size w wr))
  case atStart => exact ⟨0, by omega, by omega, by go_num, Lib.hid (Below.refl _ _)⟩
  case round =>
    obtain ⟨j, hj, rfl, rfl, HB⟩ := hrel
    by_cases hlt : j < n
    · obtain ⟨b1, off1, x, rfl, _, hv, p⟩ := Sl.getE (HS.out.below HB.out) j hlt
      obtain ⟨b2, off2, y, rfl, _, hv2, q⟩ := Sl.getE (HT.out.below HB.out) j hlt
      obtain rfl : x = y := by rw [hv] at hv2; exact Option.some.inj hv2
      unfold encS at p q
      clear hv hv2
      have hj1 : (j : Int) < n := by omega
      go_upto_region 6 with fail
      have hSw : EqW wr.drew wr.drew := rfl
      have l0 := fun u (h : EqW wr.drew u) => eqw_cell h p
      have m0 := fun u (h : EqW wr.drew u) => eqw_cell h q
      have ne2 := bytes_neL x
      clear p q
      refine wp_region_lexS (EqW wr.drew) (.stir [(0, true), (1, true), (2, true), (3, true), (4, true), (5, true), (6, true), (7, true), (8, true)]) (by kernel_rfl) (by kernel_rfl) (fun c a d v w h => by cases d <;> exact h) ?_
      refine lexS_stir (EqW wr.drew) (fun y hy => hy) rfl ?_
      iterate 9
        refine stir_step (fun K hK => ?_)
        simp only [stirOp, List.getElem?_toArray, List.getElem?_cons_succ, List.getElem?_cons_zero]
        rw [if_pos (by rfl)]
        apply Exists.intro
        refine ⟨fun w' hS' => ?_, ?_⟩
        · first | (go_simp <;> with_reducible rfl) | (go_simp; go_bits; with_reducible rfl)
        go_simp
        try go_bits
        refine hK _ ?_
        clear hK K
      refine stir_nil (fun u hu => ?_)
      obtain rfl : u = wr.drew := hu
      clear l0 m0 hSw
      go_wp2_with fail
      go_roundg (n - (j + 1))
      case measure => omega
      case rel => exact ⟨j + 1, by omega, rfl, by go_num, Lib.hid HB.out.drew⟩
    · obtain rfl : n = j := by omega
      go_wp2_with fail
      go_ret
      exact ⟨rfl, HB.out⟩
set_option maxRecDepth 100000 in
set_option maxHeartbeats 32000000 in
theorem sameMethU_yes (w : World) (m m2 : UM) (h : m.Rd w) (h2 : m2.Rd w) (hp : m.p = m2.p) (hf : m.Fit) (hb4 : ∀ p ∈ m.maps, p.ln ≤ 1000000000 ∧ p.sn ≤ 1000000000) :
    Calls Tryz.prog 30 #[.agg m.cells.toArray, .agg m2.cells.toArray] w (BoolRet true w) := by
  have HX := Lib.hid h
  have HY := Lib.hid h2
  have HB4 := Lib.hid hb4
  have l1 := h.code.1
  have l2 := h.traps.1
  have l3 := h.maps.1
  have r1 := h2.code.1
  have r2 := h2.traps.1
  have r3 := h2.maps.1
  have f1 := hf.code
  have f2 := hf.traps
  have f3 := hf.maps
  clear h h2 hb4 hf
  obtain ⟨st, nm, ds, sk, lo, ca, cn, cc, code, ta, tn, tc, traps, na, nn, nc, maps⟩ := m
  obtain ⟨st2, nm2, ds2, sk2, lo2, ca2, cn2, cc2, code2, ta2, tn2, tc2, traps2, na2, nn2, nc2, maps2⟩ := m2
  simp only [UM.p, UM.mk.injEq] at hp
  obtain ⟨rfl, rfl, rfl, rfl, rfl, -, -, -, rfl, -, -, -, rfl, -, -, -, hpm⟩ := hp
  dsimp only at *
  have l4 := congrArg List.length hpm
  rw [List.length_map, List.length_map] at l4
  obtain rfl : cn = cn2 := by omega
  obtain rfl : tn = tn2 := by omega
  obtain rfl : nn = nn2 := by omega
  have hb1 : cn ≤ 1000000000 := by omega
  have hb2 : tn ≤ 1000000000 := by omega
  have hb3 : nn ≤ 1000000000 := by omega
  have HPM := Lib.hid hpm
  clear l1 l2 l3 r1 r2 r3 l4 hpm f1 f2 f3
  unfold UM.cells
  dsimp only
  have hal1 : Below w.heap.size w (w.alloc (.cells #[.bool st, .string ⟨nm.toArray⟩, .string ⟨ds.toArray⟩, .int .i64 sk, .int .i64 lo, .slice ca cn cc, .slice ta tn tc, .slice na nn nc] 59)) := below_1 _ _
  have hal2 := below_1 (w.alloc (.cells #[.bool st, .string ⟨nm.toArray⟩, .string ⟨ds.toArray⟩, .int .i64 sk, .int .i64 lo, .slice ca cn cc, .slice ta tn tc, .slice na nn nc] 59)) (.cells #[.bool st, .string ⟨nm.toArray⟩, .string ⟨ds.toArray⟩, .int .i64 sk, .int .i64 lo, .slice ca2 cn cc2, .slice ta2 tn tc2, .slice na2 nn nc2] 59)
  have HT1 := Lib.hid (row_below (heap_alloc_last w (.cells #[.bool st, .string ⟨nm.toArray⟩, .string ⟨ds.toArray⟩, .int .i64 sk, .int .i64 lo, .slice ca cn cc, .slice ta tn tc, .slice na nn nc] 59)) hal2)
  have HT2 := heap_alloc_last (w.alloc (.cells #[.bool st, .string ⟨nm.toArray⟩, .string ⟨ds.toArray⟩, .int .i64 sk, .int .i64 lo, .slice ca cn cc, .slice ta tn tc, .slice na nn nc] 59)) (.cells #[.bool st, .string ⟨nm.toArray⟩, .string ⟨ds.toArray⟩, .int .i64 sk, .int .i64 lo, .slice ca2 cn cc2, .slice ta2 tn tc2, .slice na2 nn nc2] 59)
  rw [show (w.alloc (.cells #[.bool st, .string ⟨nm.toArray⟩, .string ⟨ds.toArray⟩, .int .i64 sk, .int .i64 lo, .slice ca cn cc, .slice ta tn tc, .slice na nn nc] 59)).heap.size = w.heap.size + 1 by simp] at HT2
  replace HT2 := Lib.hid HT2
  have HB0 := Lib.hid (hal1.trans (hal2.mono hal1.size))
  clear hal1 hal2
  go_enter Tryz.func30, Tryz.ntmps30
  go_upto_region 1 with fail
  generalize (w.alloc (.cells #[.bool st, .string ⟨nm.toArray⟩, .string ⟨ds.toArray⟩, .int .i64 sk, .int .i64 lo, .slice ca cn cc, .slice ta tn tc, .slice na nn nc] 59)).alloc (.cells #[.bool st, .string ⟨nm.toArray⟩, .string ⟨ds.toArray⟩, .int .i64 sk, .int .i64 lo, .slice ca2 cn cc2, .slice ta2 tn tc2, .slice na2 nn nc2] 59) = W0 at *
  obtain ⟨u1, hu1⟩ : ∃ b, b = w.heap.size := ⟨_, rfl⟩
  obtain ⟨u2, hu2⟩ : ∃ b, b = w.heap.size + 1 := ⟨_, rfl⟩
  rw [← hu1] at HT1
  rw [← hu2] at HT2
  rw [← hu2, ← hu1]
  clear hu1 hu2
  have k0 := row_cell HT1.out 0 rfl
  have k1 := row_cell HT1.out 1 rfl
  have k2 := row_cell HT1.out 2 rfl
  have k3 := row_cell HT1.out 3 rfl
  have k4 := row_cell HT1.out 4 rfl
  have k5 := row_cell HT1.out 5 rfl
  have k6 := row_cell HT1.out 6 rfl
  have k7 := row_cell HT1.out 7 rfl
  have j0 := row_cell HT2.out 0 rfl
  have j1 := row_cell HT2.out 1 rfl
  have j2 := row_cell HT2.out 2 rfl
  have j3 := row_cell HT2.out 3 rfl
  have j4 := row_cell HT2.out 4 rfl
  have j5 := row_cell HT2.out 5 rfl
  have j6 := row_cell HT2.out 6 rfl
  have j7 := row_cell HT2.out 7 rfl
  dsimp at k0 k1 k2 k3 k4 k5 k6 k7 j0 j1 j2 j3 j4 j5 j6 j7
  have e0 : (st != st) = false := by simp
  have e1' := bytes_neL nm
  have e2' := bytes_neL ds
  have e3 : (sk != sk) = false := by simp
  have e4 : (lo != lo) = false := by simp
  have e5 : ((cn : Int) != (cn : Int)) = false := by simp
  have e6 : ((tn : Int) != (tn : Int)) = false := by simp
  have e7 : ((nn : Int) != (nn : Int)) = false := by simp
  go_cut [67] (fun r wx => r = .bool false ∧ wx = W0)
  case first =>
    go_wp2_with fail
    go_meet
    exact ⟨by simp, rfl⟩
  case rest =>
    obtain ⟨rfl, rfl⟩ := hcut
    clear e0 e3 e4 e5 e6 e7 e1' e2' k0 k1 k2 k3 k4 j0 j1 j2 j3 j4 j5 k7 j7 j6 k6
    go_wp2_with fail
    clear k5
    go_loopg [71] cn (fun gn i wr => ∃ j : Nat, j ≤ cn ∧ gn = cn - j ∧ i = .int .i64 j ∧ Hid (Below wc.heap.size wc wr))
    case atStart => exact ⟨0, by omega, by omega, by go_num, Lib.hid (Below.refl _ _)⟩
    case round =>
      obtain ⟨j, hj, rfl, rfl, HB⟩ := hrel
      have HWB := Lib.hid (HB0.out.trans (HB.out.mono HB0.out.size))
      by_cases hlt : j < cn
      · skip
        obtain ⟨b1, off1, x, rfl, _, hv, p⟩ := Ss.getC (HX.out.code.below HWB.out) j hlt
        obtain ⟨b2, off2, y, rfl, _, hv2, q⟩ := Ss.getC (HY.out.code.below HWB.out) j hlt
        obtain rfl : x = y := by rw [hv] at hv2; exact Option.some.inj hv2
        obtain ⟨op, n, m, cl, nx, dx, tx⟩ := x
        have p0 : wr.cell? ⟨b1, off1 + j * 7, none⟩ = some (.int .u8 (op : Nat)) := p 0 (by omega)
        have p1 : wr.cell? ⟨b1, off1 + j * 7 + 1, none⟩ = some (.int .i64 n) := p 1 (by omega)
        have p2 : wr.cell? ⟨b1, off1 + j * 7 + 2, none⟩ = some (.int .i64 m) := p 2 (by omega)
        have p3 : wr.cell? ⟨b1, off1 + j * 7 + 3, none⟩ = some (.string ⟨cl.toArray⟩) := p 3 (by omega)
        have p4 : wr.cell? ⟨b1, off1 + j * 7 + 4, none⟩ = some (.string ⟨nx.toArray⟩) := p 4 (by omega)
        have p5 : wr.cell? ⟨b1, off1 + j * 7 + 5, none⟩ = some (.string ⟨dx.toArray⟩) := p 5 (by omega)
        have p6 : wr.cell? ⟨b1, off1 + j * 7 + 6, none⟩ = some (.string ⟨tx.toArray⟩) := p 6 (by omega)
        have q0 : wr.cell? ⟨b2, off2 + j * 7, none⟩ = some (.int .u8 (op : Nat)) := q 0 (by omega)
        have q1 : wr.cell? ⟨b2, off2 + j * 7 + 1, none⟩ = some (.int .i64 n) := q 1 (by omega)
        have q2 : wr.cell? ⟨b2, off2 + j * 7 + 2, none⟩ = some (.int .i64 m) := q 2 (by omega)
        have q3 : wr.cell? ⟨b2, off2 + j * 7 + 3, none⟩ = some (.string ⟨cl.toArray⟩) := q 3 (by omega)
        have q4 : wr.cell? ⟨b2, off2 + j * 7 + 4, none⟩ = some (.string ⟨nx.toArray⟩) := q 4 (by omega)
        have q5 : wr.cell? ⟨b2, off2 + j * 7 + 5, none⟩ = some (.string ⟨dx.toArray⟩) := q 5 (by omega)
        have q6 : wr.cell? ⟨b2, off2 + j * 7 + 6, none⟩ = some (.string ⟨tx.toArray⟩) := q 6 (by omega)
        have k6 := row_cell (row_below HT1.out HB.out) 5 rfl
        have j6 := row_cell (row_below HT2.out HB.out) 5 rfl
        dsimp at k6 j6
        clear p q hv hv2
        have hj1 : (j : Int) < cn := by omega
        go_upto_region 6 with fail
        have hSw : EqW wr.drew wr.drew := rfl
        have l0 := fun u (h : EqW wr.drew u) => eqw_cell h p0
        have m0 := fun u (h : EqW wr.drew u) => eqw_cell h q0
        have l1 := fun u (h : EqW wr.drew u) => eqw_cell h p1
        have m1 := fun u (h : EqW wr.drew u) => eqw_cell h q1
        have l2 := fun u (h : EqW wr.drew u) => eqw_cell h p2
        have m2 := fun u (h : EqW wr.drew u) => eqw_cell h q2
        have l3 := fun u (h : EqW wr.drew u) => eqw_cell h p3
        have m3 := fun u (h : EqW wr.drew u) => eqw_cell h q3
        have l4 := fun u (h : EqW wr.drew u) => eqw_cell h p4
        have m4 := fun u (h : EqW wr.drew u) => eqw_cell h q4
        have l5 := fun u (h : EqW wr.drew u) => eqw_cell h p5
        have m5 := fun u (h : EqW wr.drew u) => eqw_cell h q5
        have l6 := fun u (h : EqW wr.drew u) => eqw_cell h p6
        have m6 := fun u (h : EqW wr.drew u) => eqw_cell h q6
        have n0 := fun u (h : EqW wr.drew u) => eqw_cell h k6
        have n1 := fun u (h : EqW wr.drew u) => eqw_cell h j6
        have HNE := Lib.hid (fun u o1 o2 => by simpa [IN.cells] using usins_neq u ⟨op, n, m, cl, nx, dx, tx⟩ o1 o2)
        clear p0 q0 p1 q1 p2 q2 p3 q3 p4 q4 p5 q5 p6 q6 k6 j6
        refine wp_region_lexS (EqW wr.drew) (.stir [(0, true), (1, true), (2, true), (3, true), (4, true), (5, true), (6, true), (7, true), (8, true), (9, true), (10, true)]) (by kernel_rfl) (by kernel_rfl) (fun c a d v w h => by cases d <;> exact h) ?_
        refine lexS_stir (EqW wr.drew) (fun y hy => hy) rfl ?_
        iterate 10
          refine stir_step (fun K hK => ?_)
          simp only [stirOp, List.getElem?_toArray, List.getElem?_cons_succ, List.getElem?_cons_zero]
          rw [if_pos (by rfl)]
          apply Exists.intro
          refine ⟨fun w' hS' => ?_, ?_⟩
          · first | (go_simp <;> with_reducible rfl) | (go_simp; go_bits; with_reducible rfl)
          go_simp
          try go_bits
          refine hK _ ?_
          clear hK K
        refine stir_step (fun K hK => ?_)
        simp only [stirOp, List.getElem?_toArray, List.getElem?_cons_succ, List.getElem?_cons_zero]
        rw [if_pos (by rfl)]
        refine ⟨Value.bool false, fun w' hS' => ?_, ?_⟩
        · exact run_exec_binS (by rfl) (HNE.out w' _ _)
        go_simp
        refine hK _ ?_
        clear hK K
        refine stir_nil (fun u hu => ?_)
        obtain rfl : u = wr.drew := hu
        clear l0 m0 l1 m1 l2 m2 l3 m3 l4 m4 l5 m5 l6 m6 n0 n1 HNE hSw
        go_wp2_with fail
        go_roundg (cn - (j + 1))
        case measure => omega
        case rel => exact ⟨j + 1, by omega, rfl, by go_num, Lib.hid HB.out.drew⟩
      · obtain rfl : cn = j := by omega
        have HT1' := Lib.hid (row_below HT1.out HB.out)
        have HT2' := Lib.hid (row_below HT2.out HB.out)
        clear HB HB0 HT1 HT2
        have k7 := row_cell HT1'.out 6 rfl
        dsimp at k7
        go_wp2_with fail
        clear k7
        obtain ⟨W8, hW8⟩ : ∃ W8, W8 = wr := ⟨_, rfl⟩
        subst hW8
        go_loopg [89] tn (fun gn i wr => ∃ j : Nat, j ≤ tn ∧ gn = tn - j ∧ i = .int .i64 j ∧ Hid (Below W8.heap.size W8 wr))
        case atStart => exact ⟨0, by omega, by omega, by go_num, Lib.hid (Below.refl _ _)⟩
        case round =>
          obtain ⟨j, hj, rfl, rfl, HB⟩ := hrel
          have HWC := Lib.hid (HWB.out.trans (HB.out.mono HWB.out.size))
          by_cases hlt : j < tn
          · skip
            obtain ⟨b1, off1, x, rfl, _, hv, p⟩ := Ss.getC (HX.out.traps.below HWC.out) j hlt
            obtain ⟨b2, off2, y, rfl, _, hv2, q⟩ := Ss.getC (HY.out.traps.below HWC.out) j hlt
            obtain rfl : x = y := by rw [hv] at hv2; exact Option.some.inj hv2
            obtain ⟨fr, tt, pl, cl⟩ := x
            have p0 : wr.cell? ⟨b1, off1 + j * 4, none⟩ = some (.int .i64 fr) := p 0 (by omega)
            have p1 : wr.cell? ⟨b1, off1 + j * 4 + 1, none⟩ = some (.int .i64 tt) := p 1 (by omega)
            have p2 : wr.cell? ⟨b1, off1 + j * 4 + 2, none⟩ = some (.int .i64 pl) := p 2 (by omega)
            have p3 : wr.cell? ⟨b1, off1 + j * 4 + 3, none⟩ = some (.string ⟨cl.toArray⟩) := p 3 (by omega)
            have q0 : wr.cell? ⟨b2, off2 + j * 4, none⟩ = some (.int .i64 fr) := q 0 (by omega)
            have q1 : wr.cell? ⟨b2, off2 + j * 4 + 1, none⟩ = some (.int .i64 tt) := q 1 (by omega)
            have q2 : wr.cell? ⟨b2, off2 + j * 4 + 2, none⟩ = some (.int .i64 pl) := q 2 (by omega)
            have q3 : wr.cell? ⟨b2, off2 + j * 4 + 3, none⟩ = some (.string ⟨cl.toArray⟩) := q 3 (by omega)
            have k6 := row_cell (row_below HT1'.out HB.out) 6 rfl
            have j6 := row_cell (row_below HT2'.out HB.out) 6 rfl
            dsimp at k6 j6
            clear p q hv hv2
            have hj1 : (j : Int) < tn := by omega
            go_upto_region 12 with fail
            have hSw : EqW wr.drew wr.drew := rfl
            have l0 := fun u (h : EqW wr.drew u) => eqw_cell h p0
            have m0 := fun u (h : EqW wr.drew u) => eqw_cell h q0
            have l1 := fun u (h : EqW wr.drew u) => eqw_cell h p1
            have m1 := fun u (h : EqW wr.drew u) => eqw_cell h q1
            have l2 := fun u (h : EqW wr.drew u) => eqw_cell h p2
            have m2 := fun u (h : EqW wr.drew u) => eqw_cell h q2
            have l3 := fun u (h : EqW wr.drew u) => eqw_cell h p3
            have m3 := fun u (h : EqW wr.drew u) => eqw_cell h q3
            have n0 := fun u (h : EqW wr.drew u) => eqw_cell h k6
            have n1 := fun u (h : EqW wr.drew u) => eqw_cell h j6
            have HNE := Lib.hid (fun u o1 o2 => ustrap_neq u fr tt pl cl o1 o2)
            clear p0 q0 p1 q1 p2 q2 p3 q3 k6 j6
            refine wp_region_lexS (EqW wr.drew) (.stir [(0, true), (1, true), (2, true), (3, true), (4, true), (5, true), (6, true), (7, true), (8, true), (9, true), (10, true)]) (by kernel_rfl) (by kernel_rfl) (fun c a d v w h => by cases d <;> exact h) ?_
            refine lexS_stir (EqW wr.drew) (fun y hy => hy) rfl ?_
            iterate 10
              refine stir_step (fun K hK => ?_)
              simp only [stirOp, List.getElem?_toArray, List.getElem?_cons_succ, List.getElem?_cons_zero]
              rw [if_pos (by rfl)]
              apply Exists.intro
              refine ⟨fun w' hS' => ?_, ?_⟩
              · first | (go_simp <;> with_reducible rfl) | (go_simp; go_bits; with_reducible rfl)
              go_simp
              try go_bits
              refine hK _ ?_
              clear hK K
            refine stir_step (fun K hK => ?_)
            simp only [stirOp, List.getElem?_toArray, List.getElem?_cons_succ, List.getElem?_cons_zero]
            rw [if_pos (by rfl)]
            refine ⟨Value.bool false, fun w' hS' => ?_, ?_⟩
            · exact run_exec_binS (by rfl) (HNE.out w' _ _)
            go_simp
            refine hK _ ?_
            clear hK K
            refine stir_nil (fun u hu => ?_)
            obtain rfl : u = wr.drew := hu
            clear l0 m0 l1 m1 l2 m2 l3 m3 n0 n1 HNE hSw
            go_wp2_with fail
            go_roundg (tn - (j + 1))
            case measure => omega
            case rel => exact ⟨j + 1, by omega, rfl, by go_num, Lib.hid HB.out.drew⟩
          · obtain rfl : tn = j := by omega
            have HT3 := Lib.hid (row_below HT1'.out HB.out)
            have HT4 := Lib.hid (row_below HT2'.out HB.out)
            clear HB HWB HT1' HT2'
            have k7 := row_cell HT3.out 7 rfl
            dsimp at k7
            go_wp2_with fail
            clear k7
            obtain ⟨W9, hW9⟩ : ∃ W9, W9 = wr := ⟨_, rfl⟩
            subst hW9
            go_loopg [107] nn (fun gn i wx => ∃ j : Nat, j ≤ nn ∧ gn = nn - j ∧ i = .int .i64 j ∧ Hid (Below W9.heap.size W9 wx))
            case atStart => exact ⟨0, by omega, by omega, by go_num, Lib.hid (Below.refl _ _)⟩
            case round =>
              obtain ⟨j, hj, rfl, rfl, HB⟩ := hrel
              have HWD := Lib.hid (HWC.out.trans (HB.out.mono HWC.out.size))
              by_cases hlt : j < nn
              · obtain ⟨b1, off1, x, rfl, _, hv, p⟩ := Ss.getC (HX.out.maps.below HWD.out) j hlt
                obtain ⟨b2, off2, y, rfl, _, hv2, q⟩ := Ss.getC (HY.out.maps.below HWD.out) j hlt
                have hpp := map_at HPM.out hv hv2
                have hxr := HX.out.each x (List.mem_of_getElem? hv)
                have hyr := HY.out.each y (List.mem_of_getElem? hv2)
                have hx4 := HB4.out x (List.mem_of_getElem? hv)
                have s1 := hxr.loc.1
                have s2 := hxr.stk.1
                have s3 := hyr.loc.1
                have s4 := hyr.stk.1
                obtain ⟨pl, la, ln, lc, loc, sa, sn, sc, stk⟩ := x
                obtain ⟨pl2, la2, ln2, lc2, loc2, sa2, sn2, sc2, stk2⟩ := y
                simp only [UP.p, UP.mk.injEq] at hpp
                obtain ⟨rfl, -, -, -, rfl, -, -, -, rfl⟩ := hpp
                dsimp only at s1 s2 s3 s4 hx4
                obtain rfl : ln = ln2 := by omega
                obtain rfl : sn = sn2 := by omega
                have HC1 := Lib.hid (fun w' (hb : Below w.heap.size w w') => sameTexts_yes w' la ln lc la2 lc2 loc (hxr.loc.below hb) (hyr.loc.below hb) hx4.1)
                have HC2 := Lib.hid (fun w' (hb : Below w.heap.size w w') => sameTexts_yes w' sa sn sc sa2 sc2 stk (hxr.stk.below hb) (hyr.stk.below hb) hx4.2)
                have p0 : wr.cell? ⟨b1, off1 + j * 3, none⟩ = some (.int .i64 pl) := p 0 (by omega)
                have p1 : wr.cell? ⟨b1, off1 + j * 3 + 1, none⟩ = some (.slice la ln lc) := p 1 (by omega)
                have p2 : wr.cell? ⟨b1, off1 + j * 3 + 2, none⟩ = some (.slice sa sn sc) := p 2 (by omega)
                have q0 : wr.cell? ⟨b2, off2 + j * 3, none⟩ = some (.int .i64 pl) := q 0 (by omega)
                have q1 : wr.cell? ⟨b2, off2 + j * 3 + 1, none⟩ = some (.slice la2 ln lc2) := q 1 (by omega)
                have q2 : wr.cell? ⟨b2, off2 + j * 3 + 2, none⟩ = some (.slice sa2 sn sc2) := q 2 (by omega)
                have k7 := row_cell (row_below HT3.out HB.out) 7 rfl
                have j7 := row_cell (row_below HT4.out HB.out) 7 rfl
                dsimp at k7 j7
                clear p q hv hv2 s1 s2 s3 s4 hx4 hxr hyr
                have hj1 : (j : Int) < nn := by omega
                have ep : (pl != pl) = false := by simp
                go_upto_region 18 with fail
                have hSw : Below wr.heap.size wr wr.drew := (Below.refl _ _).drew
                have l0 := fun u (h : Below wr.heap.size wr u) => cellS_below h p0
                have l1 := fun u (h : Below wr.heap.size wr u) => cellS_below h p1
                have l2 := fun u (h : Below wr.heap.size wr u) => cellS_below h p2
                have m0 := fun u (h : Below wr.heap.size wr u) => cellS_below h q0
                have m1 := fun u (h : Below wr.heap.size wr u) => cellS_below h q1
                have m2 := fun u (h : Below wr.heap.size wr u) => cellS_below h q2
                have n0 := fun u (h : Below wr.heap.size wr u) => cellS_below h k7
                have n1 := fun u (h : Below wr.heap.size wr u) => cellS_below h j7
                have HD1 := Lib.hid (fun u (h : Below wr.heap.size wr u) => HC1.out u (HWD.out.trans (h.mono HWD.out.size)))
                have HD2 := Lib.hid (fun u (h : Below wr.heap.size wr u) => HC2.out u (HWD.out.trans (h.mono HWD.out.size)))
                clear p0 p1 p2 q0 q1 q2 k7 j7 HC1 HC2
                refine wp_region_lexS (Below wr.heap.size wr) (.stir [(0, true), (1, true), (2, true), (3, true), (4, true), (5, true), (6, true), (7, true), (8, true), (9, true), (10, true), (11, true), (12, true), (13, true), (14, true), (15, true), (16, true), (17, true), (18, true), (19, true), (20, true), (21, true), (22, true), (23, true), (24, true), (25, true), (26, false), (27, true), (28, true), (29, true), (30, true), (31, true), (32, true), (33, true), (34, true), (35, true), (36, true), (37, true), (38, true), (39, true), (40, true), (41, true), (42, false), (43, true), (44, true)]) (by kernel_rfl) (by kernel_rfl) (fun c a d v w h => by cases d <;> exact h) ?_
                refine lexS_stir (Below wr.heap.size wr) (fun y hy => hy) hSw ?_
                iterate 26
                  refine stir_step (fun K hK => ?_)
                  simp only [stirOp, List.getElem?_toArray, List.getElem?_cons_succ, List.getElem?_cons_zero]
                  rw [if_pos (by rfl)]
                  apply Exists.intro
                  refine ⟨fun w' hS' => ?_, ?_⟩
                  · first | (go_simp <;> with_reducible rfl) | (go_simp; go_bits; with_reducible rfl)
                  go_simp
                  try go_bits
                  refine hK _ ?_
                  clear hK K
                refine stir_step (fun K hK => ?_)
                simp only [stirOp, List.getElem?_toArray, List.getElem?_cons_succ, List.getElem?_cons_zero]
                rw [if_pos (by rfl)]
                apply Exists.intro
                refine ⟨fun w' hS' => ?_, ?_⟩
                · go_simp
                  exact Stirs.call (Calls.mono ((HD1.out w' hS')) fun e w'' h => ⟨h.1, (fun hb'' => hS'.trans (hb''.mono hS'.size)) h.2⟩)
                go_simp
                refine hK _ ?_
                clear hK K
                iterate 15
                  refine stir_step (fun K hK => ?_)
                  simp only [stirOp, List.getElem?_toArray, List.getElem?_cons_succ, List.getElem?_cons_zero]
                  rw [if_pos (by rfl)]
                  apply Exists.intro
                  refine ⟨fun w' hS' => ?_, ?_⟩
                  · first | (go_simp <;> with_reducible rfl) | (go_simp; go_bits; with_reducible rfl)
                  go_simp
                  try go_bits
                  refine hK _ ?_
                  clear hK K
                refine stir_step (fun K hK => ?_)
                simp only [stirOp, List.getElem?_toArray, List.getElem?_cons_succ, List.getElem?_cons_zero]
                rw [if_pos (by rfl)]
                apply Exists.intro
                refine ⟨fun w' hS' => ?_, ?_⟩
                · go_simp
                  exact Stirs.call (Calls.mono ((HD2.out w' hS')) fun e w'' h => ⟨h.1, (fun hb'' => hS'.trans (hb''.mono hS'.size)) h.2⟩)
                go_simp
                refine hK _ ?_
                clear hK K
                iterate 2
                  refine stir_step (fun K hK => ?_)
                  simp only [stirOp, List.getElem?_toArray, List.getElem?_cons_succ, List.getElem?_cons_zero]
                  rw [if_pos (by rfl)]
                  apply Exists.intro
                  refine ⟨fun w' hS' => ?_, ?_⟩
                  · first | (go_simp <;> with_reducible rfl) | (go_simp; go_bits; with_reducible rfl)
                  go_simp
                  try go_bits
                  refine hK _ ?_
                  clear hK K
                refine stir_nil (fun u hu => ?_)
                clear l0 l1 l2 m0 m1 m2 n0 n1 HD1 HD2 hSw
                go_wp2_with fail
                go_roundg (nn - (j + 1))
                case measure => omega
                case rel => exact ⟨j + 1, by omega, rfl, by go_num, Lib.hid (HB.out.trans (hu.mono HB.out.size))⟩
              · obtain rfl : nn = j := by omega
                go_wp2_with fail
                go_ret
                exact ⟨rfl, HWD.out⟩
end Go.Proofs.YtclpkipaehpkdaaGreatDoor

